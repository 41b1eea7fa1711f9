/- Joined texts: ObHead, PObjectBackx0, PObjectBackx1, PObjectBackx2, ObBackP, ObBackLaw. No condition but what stands in each. -/
import Derived.Test.YtefefhhaopjccaaGreatDoorZObjectBackJ17
import Derived.Lib.SlBytesConst
import Derived.Test.YtefefhhaopjccaaGreatDoorProg
import Derived.Below
import Derived.Deep.Draws
import Derived.Deep.AppendLies
import Derived.Maps.AppendAt
import Derived.OwnWalk
import Derived.Laws.BytesArg
import Derived.Laws.MakeOwn
import Derived.Laws.OwnMore
import Derived.Deep.OwnRows
import Derived.Tactics
import Derived.Lib.ConvBytes
import Derived.Laws.Slices
import Derived.WalkKit
import Derived.KernelRfl
import Derived.RowKit3
import Derived.Deep.LoopGhost
import Derived.Deep.QuietTactic
import Derived.BigQuiet
import Derived.WideLaws
import Derived.Deep.DeepCutAuto
import Derived.Deep.CutBlock
import Derived.Deep.RegionHeld3
import Derived.Laws.Rows
import Derived.Lib.AppendStr
import Derived.ArgAppend
import Derived.Laws.IdiomCopy
import Derived.OrdersHeld
import Derived.Laws.BitsLemmas
import Derived.RowKit
import Derived.Test.YtefefhhaopjccaaGreatDoorZObjectBackJ12
import Derived.Test.YtefefhhaopjccaaGreatDoorZObjectBackJ0
import Derived.Test.YtefefhhaopjccaaGreatDoorZObjectBackJ2
import Derived.Test.YtefefhhaopjccaaGreatDoorZObjectBackJ3
import Derived.Test.YtefefhhaopjccaaGreatDoorZObjectBackJ10
namespace Go.Proofs.YtefefhhaopjccaaGreatDoor.Ob
set_option linter.unusedVariables false
set_option linter.unusedSimpArgs false
set_option maxRecDepth 100000
open Go Go.RowKit Go.Proofs.YtefefhhaopjccaaGreatDoorW.PrintWords Go.Proofs.YtefefhhaopjccaaGreatDoorW.PrintLast Go.Proofs.YtefefhhaopjccaaGreatDoorW.PrintMore PObBase
theorem new_C {α : Type} (d : Kd α) (e : TypeId) (W : World) {xs : List α} {inner : List Value} (hr : Reps (d.K (W.alloc (.cells inner.toArray e))) d.sz xs inner) (hm : xs.length ≤ 9223372036854775807) : d.C (W.alloc (.cells inner.toArray e)) (some ⟨W.heap.size, 0, none⟩) xs.length xs := by
  obtain ⟨A, c, hv, _, h⟩ := (OwnRow.lit W W.heap.size hr (Nat.le_refl _) hm : OwnRow (d.K (W.alloc (.cells inner.toArray e))) e d.sz _ _ _ _).reads
  injection hv with h1 h2 h3
  rw [h1]; exact h
theorem name0_walk (w : World) : Calls Tryz.prog 35 #[.slice (some ⟨w.heap.size, 0, none⟩) 7 7] (w.alloc (.cells #[.int .u8 98, .int .u8 108, .int .u8 111, .int .u8 98, .int .u8 32, .int .u8 48, .int .u8 10] 5 (7, 8))) fun e w' => e = .returned (.string (nameS blob0)) ∧ Below w.heap.size w w' := by
  have hC : (Kd.int .u8).C (w.alloc (.cells #[.int .u8 98, .int .u8 108, .int .u8 111, .int .u8 98, .int .u8 32, .int .u8 48, .int .u8 10] 5 (7, 8))) (some ⟨w.heap.size, 0, none⟩) 7 [98, 108, 111, 98, 32, 48, 10] := by
    refine Kd.C_of_reads (enc := Value.int .u8) (d := (0 : Int)) ⟨rfl, by decide, fun _ => ⟨_, rfl, fun j hj => ?_⟩⟩
    have hb : (w.alloc (.cells #[.int .u8 98, .int .u8 108, .int .u8 111, .int .u8 98, .int .u8 32, .int .u8 48, .int .u8 10] 5 (7, 8))).heap[w.heap.size]? = some (.cells #[.int .u8 98, .int .u8 108, .int .u8 111, .int .u8 98, .int .u8 32, .int .u8 48, .int .u8 10] 5 (7, 8)) := by
      show (w.heap.push _)[w.heap.size]? = _
      simp
    rw [add_at, Nat.zero_add]
    unfold World.cell?
    rw [hb]
    rcases (show j = 0 ∨ j = 1 ∨ j = 2 ∨ j = 3 ∨ j = 4 ∨ j = 5 ∨ j = 6 by omega) with rfl | rfl | rfl | rfl | rfl | rfl | rfl <;> rfl
  refine (Dg.rname_calls _ 7 [98, 108, 111, 98, 32, 48, 10] _ hC (Nat.le_refl _) (by decide) (by decide)).mono ?_
  rintro e w' ⟨rfl, hb⟩
  have h1 : Below w.heap.size w (w.alloc (.cells #[.int .u8 98, .int .u8 108, .int .u8 111, .int .u8 98, .int .u8 32, .int .u8 48, .int .u8 10] 5 (7, 8))) := (Below.refl _ _).alloc (Nat.le_refl _) _
  exact ⟨rfl, h1.trans (hb.mono h1.size)⟩
theorem two_items (x y : It) (hx : x.f2.size ≤ 100 ∧ x.f1.size ≤ 100) (hy : y.f2.size ≤ 100 ∧ y.f1.size ≤ 100) (W : World) (ht : Tbl W) : Calls Tryz.prog 19 #[.slice (some ⟨W.heap.size, 0, none⟩) 2 2] (W.alloc (.cells #[.int .i64 x.f0, .string x.f1, .string x.f2, .int .i64 y.f0, .string y.f1, .string y.f2] 54)) fun e w' => e = .returned (.tuple #[.string (putTree [x, y]).1, .bool (putTree [x, y]).2]) ∧ Below W.heap.size W w' := by
  have hb : Below W.heap.size W (W.alloc (.cells #[.int .i64 x.f0, .string x.f1, .string x.f2, .int .i64 y.f0, .string y.f1, .string y.f2] 54)) := (Below.refl _ _).alloc (Nat.le_refl _) _
  have hC := new_C k54 54 W (xs := [x, y]) (((Reps.none _ _).snoc (k54_mk _ x) rfl).snoc (k54_mk _ y) rfl) (by simp)
  refine (putTree_walk _ 2 2 [x, y] _ hC rfl (Nat.le_refl _) (fun z hz => ?_) (by decide) (ht.below hb)).mono ?_
  · rcases List.mem_cons.1 hz with rfl | hz
    · exact ⟨by omega, by omega⟩
    · obtain rfl := List.mem_singleton.1 hz; exact ⟨by omega, by omega⟩
  · rintro e w' ⟨rfl, hb'⟩
    exact ⟨rfl, hb.trans (hb'.mono hb.size)⟩
set_option maxHeartbeats 64000000 in
theorem head_walk (w : World) (ht : Tbl w) : Calls Tryz.prog 10 #[] w fun e w' => e = .returned (.bool true) ∧ Below w.heap.size w w' := by
  have HTB : As (∀ w', Below w.heap.size w w' → Tbl w') := ⟨fun w' hb => ht.below hb⟩
  have hI := id_walk 1 ⟨#[]⟩ (by decide) w ht
  rw [id_0] at hI
  have hN := name0_walk
  have hnm := nm_nameS blob0
  obtain ⟨a, ha_⟩ : ∃ a, nameS blob0 = a := ⟨_, rfl⟩
  rw [ha_] at hnm hI hN
  have hz := nm_size hnm
  have HI := As.mk hI
  have HN := As.mk hN
  have P1 := As.mk (hd1 hnm)
  obtain ⟨o2, h2⟩ := hd2 hnm
  obtain ⟨o3, h3, hs3⟩ := hd3 hnm
  obtain ⟨o4, h4, hs4⟩ := hd4 hnm
  have P2 := As.mk h2
  have P3 := As.mk h3
  have P3w := As.mk (wants_change h3 hs3)
  have P4 := As.mk h4
  have P4r := As.mk (right_label h4 hs4)
  have S3 := As.mk hs3
  have S4 := As.mk hs4
  have HZ := As.mk hz
  have HT1 := As.mk (fun W ht => two_items ⟨3, na, a⟩ ⟨1, nac, a⟩ ⟨by show a.size ≤ _; omega, by show na.size ≤ _; decide⟩ ⟨by show a.size ≤ _; omega, by show nac.size ≤ _; decide⟩ W ht)
  have HT2 := As.mk (fun W ht => two_items ⟨1, nac, a⟩ ⟨3, na, a⟩ ⟨by show a.size ≤ _; omega, by show nac.size ≤ _; decide⟩ ⟨by show a.size ≤ _; omega, by show na.size ≤ _; decide⟩ W ht)
  clear hI hN hnm ha_ h2 h3 h4 hs3 hs4 hz ht
  go_enter Tryz.func10, Tryz.ntmps10
  go_wp2_with (fail)
  refine HI.out.mono ?_
  rintro e w1 ⟨rfl, hb⟩
  have HB1 := As.mk hb
  clear hb
  go_wp2_with (fail)
  refine (HT1.out w1 (HTB.out _ HB1.out)).mono ?_
  rintro e w2 ⟨rfl, hb⟩
  rw [P1.out]
  have HB2 := As.mk (HB1.out.trans (hb.mono HB1.out.size))
  clear hb
  go_wp2_with (fail)
  refine (HT2.out w2 (HTB.out _ HB2.out)).mono ?_
  rintro e w3 ⟨rfl, hb⟩
  rw [P2.out]
  have HB3 := As.mk (HB2.out.trans (hb.mono HB2.out.size))
  clear hb
  go_wp2_with (fail)
  refine (putChange_walk none 0 0 ⟨a, [], nw, nt⟩ ⟨by show a.size ≤ _; have := HZ.out; omega, Nat.zero_le _, (fun p hp => nomatch hp), by show nw.size ≤ _; decide, by show nt.size ≤ _; decide⟩ w3 (Kd.C_nil _ _) rfl (Nat.le_refl _)).mono ?_
  rintro e w4 ⟨rfl, hb⟩
  rw [P3.out]
  have HB4 := As.mk (HB3.out.trans (hb.mono HB3.out.size))
  clear hb
  go_wp2_with (fail)
  refine (wants_walk 3 o3 (by have := S3.out; omega) w4 (HTB.out _ HB4.out)).mono ?_
  rintro e w5 ⟨v, rfl, hR, hb⟩
  rw [P3w.out] at hR
  obtain ⟨A5, c5, rfl, _, hC5⟩ := Kd.R_reads hR
  have HC5 := As.mk hC5
  have HB5 := As.mk (HB4.out.trans (hb.mono HB4.out.size))
  clear hb hR hC5
  go_wp2_with (fail)
  refine (putLabel_walk ⟨a, 1, nn, ⟨#[]⟩⟩ (by show a.size ≤ _; have := HZ.out; omega) (by show nn.size ≤ _; decide) (Nat.zero_le _) w5).mono ?_
  rintro e w6 ⟨rfl, hb⟩
  rw [P4.out]
  have HC6 := As.mk (Kd.C_below HC5.out hb)
  have HB6 := As.mk (HB5.out.trans (hb.mono HB5.out.size))
  clear hb
  have hcv := Lib.run_convert_bytes_const (P := Tryz.prog) w6 62 5 #[.int .u8 98, .int .u8 108, .int .u8 111, .int .u8 98, .int .u8 32, .int .u8 48, .int .u8 10] 7 7 Tryz.underlying62 Tryz.underlying5
  go_wp2_with (fail)
  refine (HN.out _).mono ?_
  rintro e w7 ⟨rfl, hb⟩
  have HC7 := As.mk (Kd.C_below HC6.out hb)
  have HB7 := As.mk (HB6.out.trans (hb.mono HB6.out.size))
  clear hb hcv
  obtain ⟨ad, had, _, hk⟩ := at_T58 HC7.out 0 (by omega) (by show (0 : Int) < 1; decide)
  subst had
  have hk1 : w7.cell? (ad.add 1) = some (.int .i64 2) := hk
  have hk2 : w7.cell? ⟨ad.block, ad.off + 1, none⟩ = some (.int .i64 2) := by rw [← hk1]; rfl
  clear hk
  have R1 := right_walk 4 o4 (by have := S4.out; omega) w7 (HTB.out _ HB7.out)
  rw [P4r.out] at R1
  go_wp2_with (fail)
  refine R1.mono ?_
  rintro e w8 ⟨rfl, hb⟩
  have HB8 := As.mk (HB7.out.trans (hb.mono HB7.out.size))
  clear hb R1 hk1 hk2
  have R2 := right_walk 4 ⟨#[]⟩ (by decide) w8 (HTB.out _ HB8.out)
  rw [right_4e] at R2
  go_wp2_with (fail)
  refine R2.mono ?_
  rintro e w9 ⟨rfl, hb⟩
  have HB9 := As.mk (HB8.out.trans (hb.mono HB8.out.size))
  clear hb R2
  have R3 := right_walk 2 ⟨#[]⟩ (by decide) w9 (HTB.out _ HB9.out)
  rw [right_2e] at R3
  go_wp2_with (fail)
  refine R3.mono ?_
  rintro e w10 ⟨rfl, hb⟩
  have HB10 := As.mk (HB9.out.trans (hb.mono HB9.out.size))
  clear hb R3
  go_wp2_with (fail)
  go_ret
  exact ⟨rfl, HB10.out⟩
namespace Gv
def head.f : Option Bool := some true
theorem head.calls (r : Bool) (w : World) (h : head.f = some r) (ht : Tbl w) : Calls Tryz.prog 10 #[] w fun e w' => e = .returned (.bool r) ∧ Below w.heap.size w w' := by
  obtain rfl := Option.some.inj h
  exact head_walk w ht
end Gv
end Go.Proofs.YtefefhhaopjccaaGreatDoor.Ob

namespace Go.Proofs.YtefefhhaopjccaaGreatDoor.PObjectBack
open Go.Proofs.YtefefhhaopjccaaGreatDoor.PObBase Go.Proofs.YtefefhhaopjccaaGreatDoor.PObGet Go.Proofs.YtefefhhaopjccaaGreatDoor.PObRt
open Go.RowKit Go.Proofs.YtefefhhaopjccaaGreatDoorW.PrintWords Go.Proofs.YtefefhhaopjccaaGreatDoorW.PrintLast Go.Proofs.YtefefhhaopjccaaGreatDoorW.PrintMore
attribute [local go_sem] max2_int min2_int max_two min_two max_three min_three max_four min_four   -- for this text's walks alone
set_option linter.unusedVariables false
set_option linter.unusedSimpArgs false
def errW : Option Int → Value
 | none => .nilIface
 | some c => .iface 0 (.int .i64 c)
theorem errW_none : errW none = .nilIface := rfl
theorem errW_some (c : Int) : errW (some c) = .iface 0 (.int .i64 c) := rfl
end Go.Proofs.YtefefhhaopjccaaGreatDoor.PObjectBack

namespace Go.Proofs.YtefefhhaopjccaaGreatDoor.PObjectBack
open Go.Proofs.YtefefhhaopjccaaGreatDoor.PObBase Go.Proofs.YtefefhhaopjccaaGreatDoor.PObGet Go.Proofs.YtefefhhaopjccaaGreatDoor.PObRt
open Go.RowKit Go.Proofs.YtefefhhaopjccaaGreatDoorW.PrintWords Go.Proofs.YtefefhhaopjccaaGreatDoorW.PrintLast Go.Proofs.YtefefhhaopjccaaGreatDoorW.PrintMore
attribute [local go_sem] max2_int min2_int max_two min_two max_three min_three max_four min_four   -- for this text's walks alone
set_option linter.unusedVariables false
set_option linter.unusedSimpArgs false
theorem eqA42 (d : Nat) (w : World) (x0 y0 : ByteArray) (x1 y1 : Int) (x2 y2 : ByteArray) (x3 y3 : ByteArray) :
  (Op.equalIn (d + 2) 42 (.agg #[.string x0, .int .i64 x1, .string x2, .string x3]) (.agg #[.string y0, .int .i64 y1, .string y2, .string y3])).run Tryz.prog w = .ok (x0.toList == y0.toList && (x1 == y1 && (x2.toList == y2.toList && (x3.toList == y3.toList)))) w := by
 refine eqA_of Tryz.underlying42 (by kernel_rfl) ?_
 refine eqf_cons (by rfl) (by go_simp; rfl) (by go_simp; rfl) (by go_simp) ?_
 refine eqf_cons (by rfl) (by go_simp; rfl) (by go_simp; rfl) (by go_simp) ?_
 refine eqf_cons (by rfl) (by go_simp; rfl) (by go_simp; rfl) (by go_simp) ?_
 exact eqf_last (by rfl) (by go_simp; rfl) (by go_simp; rfl) (by go_simp)
end Go.Proofs.YtefefhhaopjccaaGreatDoor.PObjectBack

namespace Go.Proofs.YtefefhhaopjccaaGreatDoor.PObjectBack
open Go.Proofs.YtefefhhaopjccaaGreatDoor.PObBase Go.Proofs.YtefefhhaopjccaaGreatDoor.PObGet Go.Proofs.YtefefhhaopjccaaGreatDoor.PObRt
open Go.RowKit Go.Proofs.YtefefhhaopjccaaGreatDoorW.PrintWords Go.Proofs.YtefefhhaopjccaaGreatDoorW.PrintLast Go.Proofs.YtefefhhaopjccaaGreatDoorW.PrintMore
attribute [local go_sem] max2_int min2_int max_two min_two max_three min_three max_four min_four   -- for this text's walks alone
set_option linter.unusedVariables false
set_option linter.unusedSimpArgs false
attribute [local go_sem high] eqA42
mutual
noncomputable def w04_ObjectBack.j0 : Nat → List (S54) → ByteArray → Bool → Bool → ByteArray → List ByteArray → ByteArray → ByteArray → ByteArray → Int → ByteArray → ByteArray → Option (Bool)
 | 0, _, _, _, _, _, _, _, _, _, _, _, _ => none
 | k + 1, x0, x3, x9, x59, x102000, x102001, x102002, x102003, x103000, x103001, x103002, x103003 => if x59 = true then (some x9) else ((Ob.Gv.putTree.f x0).bind fun bt106 => (if bt106.2 = true then ((PObGet.object_GetTree.f k bt106.1).bind fun bt108 => (if bt108.2 = true then ((PObBase.r04_SameItems.f k bt108.1 x0).bind fun t112 => (if t112 = true then (w04_ObjectBack.j1 k x3 x9 x102000 x102001 x102002 x102003 x103000 x103001 x103002 x103003) else (some false))) else (some false))) else (w04_ObjectBack.j1 k x3 x9 x102000 x102001 x102002 x102003 x103000 x103001 x103002 x103003)))
noncomputable def w04_ObjectBack.j1 : Nat → ByteArray → Bool → ByteArray → List ByteArray → ByteArray → ByteArray → ByteArray → Int → ByteArray → ByteArray → Option (Bool)
 | 0, _, _, _, _, _, _, _, _, _, _ => none
 | k + 1, x3, x9, x102000, x102001, x102002, x102003, x103000, x103001, x103002, x103003 => (Ob.Gv.putChange.f x102000 x102001 x102002 x102003).bind fun bt113 => (if bt113.2 = true then ((Ob.Gv.getChange.f bt113.1).bind fun bt115 => (if bt115.2.2.2.2 = true then ((PObBase.r04_SameChange.f k bt115.1 bt115.2.1 bt115.2.2.1 bt115.2.2.2.1 x102000 x102001 x102002 x102003).bind fun t123 => (if t123 = true then (w04_ObjectBack.j2 k x3 x9 x103000 x103001 x103002 x103003) else (some false))) else (some false))) else (w04_ObjectBack.j2 k x3 x9 x103000 x103001 x103002 x103003))
noncomputable def w04_ObjectBack.j2 : Nat → ByteArray → Bool → ByteArray → Int → ByteArray → ByteArray → Option (Bool)
 | 0, _, _, _, _, _, _ => none
 | k + 1, x3, x9, x103000, x103001, x103002, x103003 => (Ob.Gv.putLabel.f x103000 x103001 x103002 x103003).bind fun bt124 => (if bt124.2 = true then ((Ob.Gv.getLabel.f bt124.1).bind fun bt126 => (if bt126.2.2.2.2 = true then (if (!(bt126.1.toList == x103000.toList) || (!(bt126.2.1 == x103001) || (!(bt126.2.2.1.toList == x103002.toList) || (!(bt126.2.2.2.1.toList == x103003.toList))))) = true then (some false) else (w04_ObjectBack.j3 k x3 x9)) else (some false))) else (w04_ObjectBack.j3 k x3 x9))
noncomputable def w04_ObjectBack.j3 : Nat → ByteArray → Bool → Option (Bool)
 | 0, _, _ => none
 | k + 1, x3, x9 => (PObGet.object_GetTree.f k x3).bind fun bt132 => ((Ob.Gv.getChange.f x3).bind fun bt136 => ((Ob.Gv.getLabel.f x3).bind fun bt144 => (if bt132.2 = true then ((Ob.Gv.putTree.f bt132.1).bind fun bt150 => (if bt150.2 = true then (if bt150.1.toList = x3.toList then (w04_ObjectBack.j4 k x3 x9 bt132.2 bt136.2.2.2.2 bt144.2.2.2.2 bt136.1 bt136.2.1 bt136.2.2.1 bt136.2.2.2.1 bt144.1 bt144.2.1 bt144.2.2.1 bt144.2.2.2.1) else (some false)) else (some false))) else (w04_ObjectBack.j4 k x3 x9 bt132.2 bt136.2.2.2.2 bt144.2.2.2.2 bt136.1 bt136.2.1 bt136.2.2.1 bt136.2.2.2.1 bt144.1 bt144.2.1 bt144.2.2.1 bt144.2.2.2.1))))
noncomputable def w04_ObjectBack.j4 : Nat → ByteArray → Bool → Bool → Bool → Bool → ByteArray → List ByteArray → ByteArray → ByteArray → ByteArray → Int → ByteArray → ByteArray → Option (Bool)
 | 0, _, _, _, _, _, _, _, _, _, _, _, _, _ => none
 | k + 1, x3, x9, x23, x25, x27, x144000, x144001, x144002, x144003, x150000, x150001, x150002, x150003 => if x25 = true then ((Ob.Gv.putChange.f x144000 x144001 x144002 x144003).bind fun bt152 => (if bt152.2 = true then (if bt152.1.toList = x3.toList then (if x23 = true then (some false) else (if x27 = true then (some false) else (w04_ObjectBack.j5 k x3 x9 x23 x27 x150000 x150001 x150002 x150003))) else (some false)) else (some false))) else (w04_ObjectBack.j5 k x3 x9 x23 x27 x150000 x150001 x150002 x150003)
noncomputable def w04_ObjectBack.j5 : Nat → ByteArray → Bool → Bool → Bool → ByteArray → Int → ByteArray → ByteArray → Option (Bool)
 | 0, _, _, _, _, _, _, _, _ => none
 | k + 1, x3, x9, x23, x27, x150000, x150001, x150002, x150003 => if x27 = true then ((Ob.Gv.putLabel.f x150000 x150001 x150002 x150003).bind fun bt154 => (if bt154.2 = true then (if bt154.1.toList = x3.toList then (if x23 = true then (some false) else (some x9)) else (some false)) else (some false))) else (some x9)
end
noncomputable def w04_ObjectBack.f (k : Nat) (l0 : List (S54)) (a1_0 : ByteArray) (l1_1 : List ByteArray) (a1_2 : ByteArray) (a1_3 : ByteArray) (a2_0 : ByteArray) (a2_1 : Int) (a2_2 : ByteArray) (a2_3 : ByteArray) (a3 : ByteArray) : Option (Bool) := (Ob.Gv.head.f).bind fun t103 => ((PObBase.w04_GreatItems.f k l0).bind fun t104 => (if t104 = true then (w04_ObjectBack.j0 k l0 a3 t103 true a1_0 l1_1 a1_2 a1_3 a2_0 a2_1 a2_2 a2_3) else ((PObBase.w04_GreatChange.f k a1_0 l1_1 a1_2 a1_3).bind fun t105 => (if t105 = true then (w04_ObjectBack.j0 k l0 a3 t103 true a1_0 l1_1 a1_2 a1_3 a2_0 a2_1 a2_2 a2_3) else (if (a3.size : Int) > 9000 then (w04_ObjectBack.j0 k l0 a3 t103 true a1_0 l1_1 a1_2 a1_3 a2_0 a2_1 a2_2 a2_3) else (w04_ObjectBack.j0 k l0 a3 t103 (decide ((wrap64 ((wrap64 ((a2_0.size : Int) + (a2_2.size : Int))) + (a2_3.size : Int))) > 9000)) a1_0 l1_1 a1_2 a1_3 a2_0 a2_1 a2_2 a2_3))))))
set_option maxHeartbeats 8000000 in
set_option maxRecDepth 100000 in
theorem w04_ObjectBack.calls (k : Nat) (A0 : Option Addr) (c0 : Nat) (l0 : List (S54)) (a1_0 : ByteArray) (A1_1 : Option Addr) (c1_1 : Nat) (l1_1 : List ByteArray) (a1_2 : ByteArray) (a1_3 : ByteArray) (a2_0 : ByteArray) (a2_1 : Int) (a2_2 : ByteArray) (a2_3 : ByteArray) (a3 : ByteArray) (r : Bool) (w : World) (hr0 : Kd.C k54 w A0 l0.length l0) (hc0 : l0.length ≤ c0) (hr1_1 : Kd.C Kd.string w A1_1 l1_1.length l1_1) (hc1_1 : l1_1.length ≤ c1_1) (h : w04_ObjectBack.f k l0 a1_0 l1_1 a1_2 a1_3 a2_0 a2_1 a2_2 a2_3 a3 = some r) (ht_ : Lib.TabIs Tryz.prog w "internal/strconv.uint64pow10" .u64 Lib.pow10Tab) :
  Calls Tryz.prog 6 #[.slice A0 l0.length c0, .agg #[.string a1_0, .slice A1_1 l1_1.length c1_1, .string a1_2, .string a1_3], .agg #[.string a2_0, .int .i64 a2_1, .string a2_2, .string a2_3], .string a3] w fun e w' => e = .returned (.bool r) ∧ Below w.heap.size w w' := by
 have HTAB_ : Aside0 (∀ w_ : World, Below w.heap.size w w_ → Lib.TabIs Tryz.prog w_ "internal/strconv.uint64pow10" .u64 Lib.pow10Tab) := Aside0.mk (fun w_ hb_ => Lib.tabBelow_of_tabIs ht_ w_ hb_)
 clear ht_
 have hu40 := Tryz.underlying40
 have hu42 := Tryz.underlying42
 have HR0 := Aside0.mk hr0
 have HC0 := Aside0.mk hc0
 clear hr0 hc0
 have HR1_1 := Aside0.mk hr1_1
 have HC1_1 := Aside0.mk hc1_1
 clear hr1_1 hc1_1
 have HB := Aside0.mk (Below.refl w.heap.size w)
 have H : ((Ob.Gv.head.f).bind fun t103 => ((PObBase.w04_GreatItems.f k l0).bind fun t104 => (if t104 = true then (w04_ObjectBack.j0 k l0 a3 t103 true a1_0 l1_1 a1_2 a1_3 a2_0 a2_1 a2_2 a2_3) else ((PObBase.w04_GreatChange.f k a1_0 l1_1 a1_2 a1_3).bind fun t105 => (if t105 = true then (w04_ObjectBack.j0 k l0 a3 t103 true a1_0 l1_1 a1_2 a1_3 a2_0 a2_1 a2_2 a2_3) else (if (a3.size : Int) > 9000 then (w04_ObjectBack.j0 k l0 a3 t103 true a1_0 l1_1 a1_2 a1_3 a2_0 a2_1 a2_2 a2_3) else (w04_ObjectBack.j0 k l0 a3 t103 (decide ((wrap64 ((wrap64 ((a2_0.size : Int) + (a2_2.size : Int))) + (a2_3.size : Int))) > 9000)) a1_0 l1_1 a1_2 a1_3 a2_0 a2_1 a2_2 a2_3))))))) = some r := h
 clear h
 replace H := Option.bind_eq_some_iff.mp H
 obtain ⟨t103, A50, H⟩ := H
 replace H : ((PObBase.w04_GreatItems.f k l0).bind fun t104 => (if t104 = true then (w04_ObjectBack.j0 k l0 a3 t103 true a1_0 l1_1 a1_2 a1_3 a2_0 a2_1 a2_2 a2_3) else ((PObBase.w04_GreatChange.f k a1_0 l1_1 a1_2 a1_3).bind fun t105 => (if t105 = true then (w04_ObjectBack.j0 k l0 a3 t103 true a1_0 l1_1 a1_2 a1_3 a2_0 a2_1 a2_2 a2_3) else (if (a3.size : Int) > 9000 then (w04_ObjectBack.j0 k l0 a3 t103 true a1_0 l1_1 a1_2 a1_3 a2_0 a2_1 a2_2 a2_3) else (w04_ObjectBack.j0 k l0 a3 t103 (decide ((wrap64 ((wrap64 ((a2_0.size : Int) + (a2_2.size : Int))) + (a2_3.size : Int))) > 9000)) a1_0 l1_1 a1_2 a1_3 a2_0 a2_1 a2_2 a2_3)))))) = some r := H
 have A5 := Aside0.mk A50
 clear A50
 have HC6 := Aside0.mk H
 clear H
 go_enter Tryz.func6, Tryz.ntmps6
 go_upto_region 2 with (first | ((with_reducible refine gate_dst (N := 5) rfl ?_); (try (refine gate_guard (by rfl) ?_; dsimp only)); refine box_event ?hg (N := 5) ?hd (cs := #[.string a1_0, .slice A1_1 l1_1.length c1_1, .string a1_2, .string a1_3]) (t := 40) ?hr ?_; (case hd => rfl); (case hg => rfl); (case hr => first | (go_simp; done) | (go_simp; rfl)); intro gb101 hg w7 hbox hb; have n0_ := Aside0.mk (below_step (by repeat (first | (with_reducible first | exact HB.out | apply below_alloc | apply pw_below_drewN | apply below_drew1) | exact HB.out)) hb); have n1_ := Aside0.mk (hbox); have n2_ := Aside0.mk ((by rw [hg]; exact (below_size (by repeat (first | (with_reducible first | exact HB.out | apply below_alloc | apply pw_below_drewN | apply below_drew1) | exact HB.out))) : w.heap.size ≤ gb101)); have n3_ := Aside0.mk ((by rw [hg]; exact (below_size (by repeat (first | (with_reducible first | exact HB.out | apply below_alloc | apply pw_below_drewN | apply below_drew1) | exact HB.out))) : w.heap.size ≤ gb101)); clear HB; have HB := n0_; have BK101 := n1_; have GW101 := n2_; have GE101 := n3_; clear n0_ n1_ n2_ n3_; clear hb hbox hg) | ((with_reducible refine gate_dst (N := 6) rfl ?_); (try (refine gate_guard (by rfl) ?_; dsimp only)); refine box_event ?hg (N := 6) ?hd (cs := #[.string a2_0, .int .i64 a2_1, .string a2_2, .string a2_3]) (t := 42) ?hr ?_; (case hd => rfl); (case hg => rfl); (case hr => first | (go_simp; done) | (go_simp; rfl)); intro gb102 hg w8 hbox hb; have n0_ := Aside0.mk (blk_below (g := gb101) (o := .cells #[.string a1_0, .slice A1_1 l1_1.length c1_1, .string a1_2, .string a1_3] 40 (0, 0)) (by (with_reducible repeat (first | refine blk_drewN ?_ _ | refine blk_drew ?_ | refine blk_alloc ?_ _)); exact BK101.out) hb); have n1_ := Aside0.mk (below_step (by repeat (first | (with_reducible first | exact HB.out | apply below_alloc | apply pw_below_drewN | apply below_drew1 | refine below_set ?_ GE101.out) | exact HB.out)) hb); have n2_ := Aside0.mk (hbox); have n3_ := Aside0.mk ((by rw [hg]; exact (below_size (by repeat (first | (with_reducible first | exact HB.out | apply below_alloc | apply pw_below_drewN | apply below_drew1 | refine below_set ?_ GE101.out) | exact HB.out))) : w.heap.size ≤ gb102)); have n4_ := Aside0.mk ((by rw [hg]; exact (below_size (by repeat (first | (with_reducible first | exact HB.out | apply below_alloc | apply pw_below_drewN | apply below_drew1 | refine below_set ?_ GE101.out) | exact HB.out))) : w.heap.size ≤ gb102)); have n5_ := Aside0.mk ((by rw [hg]; exact Nat.ne_of_lt (blk_lt (g := gb101) (o := .cells #[.string a1_0, .slice A1_1 l1_1.length c1_1, .string a1_2, .string a1_3] 40 (0, 0)) (by (with_reducible repeat (first | refine blk_drewN ?_ _ | refine blk_drew ?_ | refine blk_alloc ?_ _)); exact BK101.out)) : gb101 ≠ gb102)); have n6_ := Aside0.mk ((by rw [hg]; exact Nat.ne_of_gt (blk_lt (g := gb101) (o := .cells #[.string a1_0, .slice A1_1 l1_1.length c1_1, .string a1_2, .string a1_3] 40 (0, 0)) (by (with_reducible repeat (first | refine blk_drewN ?_ _ | refine blk_drew ?_ | refine blk_alloc ?_ _)); exact BK101.out)) : gb102 ≠ gb101)); clear BK101; clear HB; have BK101 := n0_; have HB := n1_; have BK102 := n2_; have GW102 := n3_; have GE102 := n4_; have NB101_102 := n5_; have NB102_101 := n6_; clear n0_ n1_ n2_ n3_ n4_ n5_ n6_; clear hb hbox hg) | ((with_reducible refine gate_callee (f := 10) rfl ?_); refine goesL_ (some 34) rfl rfl Tryz.func10 (by kernel_rfl) rfl #[] rfl (by (try simp only [List.map_toArray, List.map_cons, List.map_nil]); first | done | rfl | (simp only [List.length_drop, List.length_take]; rfl)) ?_; (with_reducible refine (Ob.Gv.head.calls  t103 _ A5.out (HTAB_.out _ (by first | exact Below.refl _ _ | (with_reducible exact Aside0.out (by assumption)) | repeat (first | (with_reducible exact Aside0.out (by assumption)) | apply below_alloc | apply pw_below_drewN | apply below_drew1 | (refine below_set ?_ ?_; rotate_left; (with_reducible exact Aside0.out (by assumption))))))).mono ?_); rintro e w9 ⟨rfl, hb⟩; refine ⟨_, rfl, ?_⟩; have n0_ := Aside0.mk (blk_below (g := gb101) (o := .cells #[.string a1_0, .slice A1_1 l1_1.length c1_1, .string a1_2, .string a1_3] 40 (0, 0)) (by (with_reducible repeat (first | refine blk_drewN ?_ _ | refine blk_drew ?_ | refine blk_alloc ?_ _)); exact BK101.out) hb); have n1_ := Aside0.mk (blk_below (g := gb102) (o := .cells #[.string a2_0, .int .i64 a2_1, .string a2_2, .string a2_3] 42 (0, 0)) (by (with_reducible repeat (first | refine blk_drewN ?_ _ | refine blk_drew ?_ | refine blk_alloc ?_ _)); exact BK102.out) hb); have n2_ := Aside0.mk (below_step (by repeat (first | (with_reducible first | exact HB.out | apply below_alloc | apply pw_below_drewN | apply below_drew1 | refine below_set ?_ GE101.out | refine below_set ?_ GE102.out) | exact HB.out)) hb); clear BK101; clear BK102; clear HB; have BK101 := n0_; have BK102 := n1_; have HB := n2_; clear n0_ n1_ n2_; (try clear hb); (try clear hb2); (try clear hk); (try clear hi)))
 (try simp only [Act.put, List.setIfInBounds_toArray, List.set_cons_zero, List.set_cons_succ])
 go_cut [59] (fun v59 wc => ∃ (kq : Nat) (x59_5 : Bool), v59 = .bool x59_5 ∧ Aside0 (w04_ObjectBack.j0 kq l0 a3 t103 x59_5 a1_0 l1_1 a1_2 a1_3 a2_0 a2_1 a2_2 a2_3 = some r) ∧ Aside0 (kq ≤ k) ∧ Aside0 (wc.heap[gb101]? = some (.cells #[.string a1_0, (.slice A1_1 l1_1.length c1_1), .string a1_2, .string a1_3] 40 (0, 0))) ∧ Aside0 (wc.heap[gb102]? = some (.cells #[.string a2_0, .int .i64 a2_1, .string a2_2, .string a2_3] 42 (0, 0))) ∧ Aside0 (Below w.heap.size w wc))
 case first =>
  have H := HC6.out
  clear HC6
  replace H := Option.bind_eq_some_iff.mp H
  obtain ⟨t104, A100, H⟩ := H
  replace H : (if t104 = true then (w04_ObjectBack.j0 k l0 a3 t103 true a1_0 l1_1 a1_2 a1_3 a2_0 a2_1 a2_2 a2_3) else ((PObBase.w04_GreatChange.f k a1_0 l1_1 a1_2 a1_3).bind fun t105 => (if t105 = true then (w04_ObjectBack.j0 k l0 a3 t103 true a1_0 l1_1 a1_2 a1_3 a2_0 a2_1 a2_2 a2_3) else (if (a3.size : Int) > 9000 then (w04_ObjectBack.j0 k l0 a3 t103 true a1_0 l1_1 a1_2 a1_3 a2_0 a2_1 a2_2 a2_3) else (w04_ObjectBack.j0 k l0 a3 t103 (decide ((wrap64 ((wrap64 ((a2_0.size : Int) + (a2_2.size : Int))) + (a2_3.size : Int))) > 9000)) a1_0 l1_1 a1_2 a1_3 a2_0 a2_1 a2_2 a2_3))))) = some r := H
  have A10 := Aside0.mk A100
  clear A100
  by_cases c11 : t104 = true
  ·
   subst c11
   have H1 : (w04_ObjectBack.j0 k l0 a3 t103 true a1_0 l1_1 a1_2 a1_3 a2_0 a2_1 a2_2 a2_3) = some r := by rw [if_pos rfl] at H; exact H
   clear H
   have H := H1
   clear H1
   have H' := Aside0.mk H
   clear H
   go_wp2_with (first | ((with_reducible refine gate_callee (f := 18) rfl ?_); refine goesL_ (some 36) rfl rfl Tryz.func18 (by kernel_rfl) rfl #[.slice A0 l0.length c0] rfl (by (try simp only [List.map_toArray, List.map_cons, List.map_nil]); first | done | rfl | (simp only [List.length_drop, List.length_take]; rfl)) ?_; (with_reducible refine (PObBase.w04_GreatItems.calls k _ _ l0 true _ ?side1 ?side2 A10.out).mono ?_); (case side1 => repeat (first | exact (Kd.C_below HR0.out HB.out) | (with_reducible refine Kd.C_alloc ?_ _) | (with_reducible refine Kd.C_drewN ?_ _) | (with_reducible refine Kd.C_drew ?_))); (case side2 => exact HC0.out); rintro e w12 ⟨rfl, hb⟩; refine ⟨_, rfl, ?_⟩; have n0_ := Aside0.mk (blk_below (g := gb101) (o := .cells #[.string a1_0, .slice A1_1 l1_1.length c1_1, .string a1_2, .string a1_3] 40 (0, 0)) (by (with_reducible repeat (first | refine blk_drewN ?_ _ | refine blk_drew ?_ | refine blk_alloc ?_ _)); exact BK101.out) hb); have n1_ := Aside0.mk (blk_below (g := gb102) (o := .cells #[.string a2_0, .int .i64 a2_1, .string a2_2, .string a2_3] 42 (0, 0)) (by (with_reducible repeat (first | refine blk_drewN ?_ _ | refine blk_drew ?_ | refine blk_alloc ?_ _)); exact BK102.out) hb); have n2_ := Aside0.mk (below_step (by repeat (first | (with_reducible first | exact HB.out | apply below_alloc | apply pw_below_drewN | apply below_drew1 | refine below_set ?_ GE101.out | refine below_set ?_ GE102.out) | exact HB.out)) hb); clear BK101; clear BK102; clear HB; have BK101 := n0_; have BK102 := n1_; have HB := n2_; clear n0_ n1_ n2_; (try clear hb); (try clear hb2); (try clear hk); (try clear hi)))
   go_meet
   case rel => exact ⟨_, (true), (by first | rfl | (simp; done) | (simp [*]; done)), H', ⟨by first | omega | exact Nat.le_refl _⟩, ⟨by (with_reducible repeat (first | refine blk_drewN ?_ _ | refine blk_drew ?_ | refine blk_alloc ?_ _)); exact BK101.out⟩, ⟨by (with_reducible repeat (first | refine blk_drewN ?_ _ | refine blk_drew ?_ | refine blk_alloc ?_ _)); exact BK102.out⟩, ⟨by repeat (first | (with_reducible first | exact HB.out | apply below_alloc | apply pw_below_drewN | apply below_drew1 | refine below_set ?_ GE101.out | refine below_set ?_ GE102.out) | exact HB.out)⟩⟩
  ·
   replace c11 := Bool.eq_false_iff.mpr c11
   subst c11
   have H1 : ((PObBase.w04_GreatChange.f k a1_0 l1_1 a1_2 a1_3).bind fun t105 => (if t105 = true then (w04_ObjectBack.j0 k l0 a3 t103 true a1_0 l1_1 a1_2 a1_3 a2_0 a2_1 a2_2 a2_3) else (if (a3.size : Int) > 9000 then (w04_ObjectBack.j0 k l0 a3 t103 true a1_0 l1_1 a1_2 a1_3 a2_0 a2_1 a2_2 a2_3) else (w04_ObjectBack.j0 k l0 a3 t103 (decide ((wrap64 ((wrap64 ((a2_0.size : Int) + (a2_2.size : Int))) + (a2_3.size : Int))) > 9000)) a1_0 l1_1 a1_2 a1_3 a2_0 a2_1 a2_2 a2_3)))) = some r := by rw [if_neg (show ¬ (false = true) by decide)] at H; exact H
   clear H
   have H := H1
   clear H1
   replace H := Option.bind_eq_some_iff.mp H
   obtain ⟨t105, A130, H⟩ := H
   replace H : (if t105 = true then (w04_ObjectBack.j0 k l0 a3 t103 true a1_0 l1_1 a1_2 a1_3 a2_0 a2_1 a2_2 a2_3) else (if (a3.size : Int) > 9000 then (w04_ObjectBack.j0 k l0 a3 t103 true a1_0 l1_1 a1_2 a1_3 a2_0 a2_1 a2_2 a2_3) else (w04_ObjectBack.j0 k l0 a3 t103 (decide ((wrap64 ((wrap64 ((a2_0.size : Int) + (a2_2.size : Int))) + (a2_3.size : Int))) > 9000)) a1_0 l1_1 a1_2 a1_3 a2_0 a2_1 a2_2 a2_3))) = some r := H
   have A13 := Aside0.mk A130
   clear A130
   by_cases c14 : t105 = true
   ·
    subst c14
    have H1 : (w04_ObjectBack.j0 k l0 a3 t103 true a1_0 l1_1 a1_2 a1_3 a2_0 a2_1 a2_2 a2_3) = some r := by rw [if_pos rfl] at H; exact H
    clear H
    have H := H1
    clear H1
    have H' := Aside0.mk H
    clear H
    go_wp2_with (first | ((with_reducible refine gate_callee (f := 18) rfl ?_); refine goesL_ (some 36) rfl rfl Tryz.func18 (by kernel_rfl) rfl #[.slice A0 l0.length c0] rfl (by (try simp only [List.map_toArray, List.map_cons, List.map_nil]); first | done | rfl | (simp only [List.length_drop, List.length_take]; rfl)) ?_; (with_reducible refine (PObBase.w04_GreatItems.calls k _ _ l0 false _ ?side1 ?side2 A10.out).mono ?_); (case side1 => repeat (first | exact (Kd.C_below HR0.out HB.out) | (with_reducible refine Kd.C_alloc ?_ _) | (with_reducible refine Kd.C_drewN ?_ _) | (with_reducible refine Kd.C_drew ?_))); (case side2 => exact HC0.out); rintro e w15 ⟨rfl, hb⟩; refine ⟨_, rfl, ?_⟩; have n0_ := Aside0.mk (blk_below (g := gb101) (o := .cells #[.string a1_0, .slice A1_1 l1_1.length c1_1, .string a1_2, .string a1_3] 40 (0, 0)) (by (with_reducible repeat (first | refine blk_drewN ?_ _ | refine blk_drew ?_ | refine blk_alloc ?_ _)); exact BK101.out) hb); have n1_ := Aside0.mk (blk_below (g := gb102) (o := .cells #[.string a2_0, .int .i64 a2_1, .string a2_2, .string a2_3] 42 (0, 0)) (by (with_reducible repeat (first | refine blk_drewN ?_ _ | refine blk_drew ?_ | refine blk_alloc ?_ _)); exact BK102.out) hb); have n2_ := Aside0.mk (below_step (by repeat (first | (with_reducible first | exact HB.out | apply below_alloc | apply pw_below_drewN | apply below_drew1 | refine below_set ?_ GE101.out | refine below_set ?_ GE102.out) | exact HB.out)) hb); clear BK101; clear BK102; clear HB; have BK101 := n0_; have BK102 := n1_; have HB := n2_; clear n0_ n1_ n2_; (try clear hb); (try clear hb2); (try clear hk); (try clear hi); have hnb16 := NB101_102.out; have hnc16 := NB102_101.out; have hcz17_0 : w15.cell? ⟨gb101, 0, none⟩ = some (.string a1_0) := (blk_cell BK101.out 0).trans rfl; have hcz17_1 : w15.cell? ⟨gb101, 1, none⟩ = some (.slice A1_1 l1_1.length c1_1) := (blk_cell BK101.out 1).trans rfl; have hcz17_2 : w15.cell? ⟨gb101, 2, none⟩ = some (.string a1_2) := (blk_cell BK101.out 2).trans rfl; have hcz17_3 : w15.cell? ⟨gb101, 3, none⟩ = some (.string a1_3) := (blk_cell BK101.out 3).trans rfl; have hfz17_0 := blk_frozen BK101.out 0; have hfz17_1 := blk_frozen BK101.out 1; have hfz17_2 := blk_frozen BK101.out 2; have hfz17_3 := blk_frozen BK101.out 3) | (go_at_call 24; (with_reducible refine (PObBase.w04_GreatChange.calls k a1_0 _ _ l1_1 a1_2 a1_3 true _ ?side1 ?side2 A13.out).mono ?_); (case side1 => repeat (first | exact (Kd.C_below HR1_1.out HB.out) | (with_reducible refine Kd.C_alloc ?_ _) | (with_reducible refine Kd.C_drewN ?_ _) | (with_reducible refine Kd.C_drew ?_))); (case side2 => exact HC1_1.out); rintro e w18 ⟨rfl, hb⟩; have n0_ := Aside0.mk (blk_below (g := gb101) (o := .cells #[.string a1_0, .slice A1_1 l1_1.length c1_1, .string a1_2, .string a1_3] 40 (0, 0)) (by (with_reducible repeat (first | refine blk_drewN ?_ _ | refine blk_drew ?_ | refine blk_alloc ?_ _)); exact BK101.out) hb); have n1_ := Aside0.mk (blk_below (g := gb102) (o := .cells #[.string a2_0, .int .i64 a2_1, .string a2_2, .string a2_3] 42 (0, 0)) (by (with_reducible repeat (first | refine blk_drewN ?_ _ | refine blk_drew ?_ | refine blk_alloc ?_ _)); exact BK102.out) hb); have n2_ := Aside0.mk (below_step (by repeat (first | (with_reducible first | exact HB.out | apply below_alloc | apply pw_below_drewN | apply below_drew1 | refine below_set ?_ GE101.out | refine below_set ?_ GE102.out) | exact HB.out)) hb); clear BK101; clear BK102; clear HB; have BK101 := n0_; have BK102 := n1_; have HB := n2_; clear n0_ n1_ n2_; (try clear hb); (try clear hb2); (try clear hk); (try clear hi)))
    go_meet
    case rel => exact ⟨_, (true), (by first | rfl | (simp; done) | (simp [*]; done)), H', ⟨by first | omega | exact Nat.le_refl _⟩, ⟨by (with_reducible repeat (first | refine blk_drewN ?_ _ | refine blk_drew ?_ | refine blk_alloc ?_ _)); exact BK101.out⟩, ⟨by (with_reducible repeat (first | refine blk_drewN ?_ _ | refine blk_drew ?_ | refine blk_alloc ?_ _)); exact BK102.out⟩, ⟨by repeat (first | (with_reducible first | exact HB.out | apply below_alloc | apply pw_below_drewN | apply below_drew1 | refine below_set ?_ GE101.out | refine below_set ?_ GE102.out) | exact HB.out)⟩⟩
   ·
    replace c14 := Bool.eq_false_iff.mpr c14
    subst c14
    have H1 : (if (a3.size : Int) > 9000 then (w04_ObjectBack.j0 k l0 a3 t103 true a1_0 l1_1 a1_2 a1_3 a2_0 a2_1 a2_2 a2_3) else (w04_ObjectBack.j0 k l0 a3 t103 (decide ((wrap64 ((wrap64 ((a2_0.size : Int) + (a2_2.size : Int))) + (a2_3.size : Int))) > 9000)) a1_0 l1_1 a1_2 a1_3 a2_0 a2_1 a2_2 a2_3)) = some r := by rw [if_neg (show ¬ (false = true) by decide)] at H; exact H
    clear H
    have H := H1
    clear H1
    by_cases c19 : (a3.size : Int) > 9000
    ·
     rw [if_pos c19] at H
     have c19b0 : decide (9000 < (a3.size : Int)) = true := decide_eq_true c19
     have c19b1 : decide (9000 < a3.size) = true := decide_eq_true (by omega)
     clear c19
     (first | rw [c19b0] | (simp only [i64_w, i32_w]; rw [c19b0]) | skip)
     have H' := Aside0.mk H
     clear H
     go_wp2_with (first | ((with_reducible refine gate_callee (f := 18) rfl ?_); refine goesL_ (some 36) rfl rfl Tryz.func18 (by kernel_rfl) rfl #[.slice A0 l0.length c0] rfl (by (try simp only [List.map_toArray, List.map_cons, List.map_nil]); first | done | rfl | (simp only [List.length_drop, List.length_take]; rfl)) ?_; (with_reducible refine (PObBase.w04_GreatItems.calls k _ _ l0 false _ ?side1 ?side2 A10.out).mono ?_); (case side1 => repeat (first | exact (Kd.C_below HR0.out HB.out) | (with_reducible refine Kd.C_alloc ?_ _) | (with_reducible refine Kd.C_drewN ?_ _) | (with_reducible refine Kd.C_drew ?_))); (case side2 => exact HC0.out); rintro e w20 ⟨rfl, hb⟩; refine ⟨_, rfl, ?_⟩; have n0_ := Aside0.mk (blk_below (g := gb101) (o := .cells #[.string a1_0, .slice A1_1 l1_1.length c1_1, .string a1_2, .string a1_3] 40 (0, 0)) (by (with_reducible repeat (first | refine blk_drewN ?_ _ | refine blk_drew ?_ | refine blk_alloc ?_ _)); exact BK101.out) hb); have n1_ := Aside0.mk (blk_below (g := gb102) (o := .cells #[.string a2_0, .int .i64 a2_1, .string a2_2, .string a2_3] 42 (0, 0)) (by (with_reducible repeat (first | refine blk_drewN ?_ _ | refine blk_drew ?_ | refine blk_alloc ?_ _)); exact BK102.out) hb); have n2_ := Aside0.mk (below_step (by repeat (first | (with_reducible first | exact HB.out | apply below_alloc | apply pw_below_drewN | apply below_drew1 | refine below_set ?_ GE101.out | refine below_set ?_ GE102.out) | exact HB.out)) hb); clear BK101; clear BK102; clear HB; have BK101 := n0_; have BK102 := n1_; have HB := n2_; clear n0_ n1_ n2_; (try clear hb); (try clear hb2); (try clear hk); (try clear hi); have hnb21 := NB101_102.out; have hnc21 := NB102_101.out; have hcz22_0 : w20.cell? ⟨gb101, 0, none⟩ = some (.string a1_0) := (blk_cell BK101.out 0).trans rfl; have hcz22_1 : w20.cell? ⟨gb101, 1, none⟩ = some (.slice A1_1 l1_1.length c1_1) := (blk_cell BK101.out 1).trans rfl; have hcz22_2 : w20.cell? ⟨gb101, 2, none⟩ = some (.string a1_2) := (blk_cell BK101.out 2).trans rfl; have hcz22_3 : w20.cell? ⟨gb101, 3, none⟩ = some (.string a1_3) := (blk_cell BK101.out 3).trans rfl; have hfz22_0 := blk_frozen BK101.out 0; have hfz22_1 := blk_frozen BK101.out 1; have hfz22_2 := blk_frozen BK101.out 2; have hfz22_3 := blk_frozen BK101.out 3) | (go_at_call 24; (with_reducible refine (PObBase.w04_GreatChange.calls k a1_0 _ _ l1_1 a1_2 a1_3 false _ ?side1 ?side2 A13.out).mono ?_); (case side1 => repeat (first | exact (Kd.C_below HR1_1.out HB.out) | (with_reducible refine Kd.C_alloc ?_ _) | (with_reducible refine Kd.C_drewN ?_ _) | (with_reducible refine Kd.C_drew ?_))); (case side2 => exact HC1_1.out); rintro e w23 ⟨rfl, hb⟩; have n0_ := Aside0.mk (blk_below (g := gb101) (o := .cells #[.string a1_0, .slice A1_1 l1_1.length c1_1, .string a1_2, .string a1_3] 40 (0, 0)) (by (with_reducible repeat (first | refine blk_drewN ?_ _ | refine blk_drew ?_ | refine blk_alloc ?_ _)); exact BK101.out) hb); have n1_ := Aside0.mk (blk_below (g := gb102) (o := .cells #[.string a2_0, .int .i64 a2_1, .string a2_2, .string a2_3] 42 (0, 0)) (by (with_reducible repeat (first | refine blk_drewN ?_ _ | refine blk_drew ?_ | refine blk_alloc ?_ _)); exact BK102.out) hb); have n2_ := Aside0.mk (below_step (by repeat (first | (with_reducible first | exact HB.out | apply below_alloc | apply pw_below_drewN | apply below_drew1 | refine below_set ?_ GE101.out | refine below_set ?_ GE102.out) | exact HB.out)) hb); clear BK101; clear BK102; clear HB; have BK101 := n0_; have BK102 := n1_; have HB := n2_; clear n0_ n1_ n2_; (try clear hb); (try clear hb2); (try clear hk); (try clear hi)))
     go_meet
     case rel => exact ⟨_, (true), (by first | rfl | (simp; done) | (simp [*]; done)), H', ⟨by first | omega | exact Nat.le_refl _⟩, ⟨by (with_reducible repeat (first | refine blk_drewN ?_ _ | refine blk_drew ?_ | refine blk_alloc ?_ _)); exact BK101.out⟩, ⟨by (with_reducible repeat (first | refine blk_drewN ?_ _ | refine blk_drew ?_ | refine blk_alloc ?_ _)); exact BK102.out⟩, ⟨by repeat (first | (with_reducible first | exact HB.out | apply below_alloc | apply pw_below_drewN | apply below_drew1 | refine below_set ?_ GE101.out | refine below_set ?_ GE102.out) | exact HB.out)⟩⟩
    ·
     rw [if_neg c19] at H
     have c19b0 : decide (9000 < (a3.size : Int)) = false := decide_eq_false c19
     have c19b1 : decide (9000 < a3.size) = false := decide_eq_false (by omega)
     clear c19
     (first | rw [c19b0] | (simp only [i64_w, i32_w]; rw [c19b0]) | skip)
     have H' := Aside0.mk H
     clear H
     go_wp2_with (first | ((with_reducible refine gate_callee (f := 18) rfl ?_); refine goesL_ (some 36) rfl rfl Tryz.func18 (by kernel_rfl) rfl #[.slice A0 l0.length c0] rfl (by (try simp only [List.map_toArray, List.map_cons, List.map_nil]); first | done | rfl | (simp only [List.length_drop, List.length_take]; rfl)) ?_; (with_reducible refine (PObBase.w04_GreatItems.calls k _ _ l0 false _ ?side1 ?side2 A10.out).mono ?_); (case side1 => repeat (first | exact (Kd.C_below HR0.out HB.out) | (with_reducible refine Kd.C_alloc ?_ _) | (with_reducible refine Kd.C_drewN ?_ _) | (with_reducible refine Kd.C_drew ?_))); (case side2 => exact HC0.out); rintro e w24 ⟨rfl, hb⟩; refine ⟨_, rfl, ?_⟩; have n0_ := Aside0.mk (blk_below (g := gb101) (o := .cells #[.string a1_0, .slice A1_1 l1_1.length c1_1, .string a1_2, .string a1_3] 40 (0, 0)) (by (with_reducible repeat (first | refine blk_drewN ?_ _ | refine blk_drew ?_ | refine blk_alloc ?_ _)); exact BK101.out) hb); have n1_ := Aside0.mk (blk_below (g := gb102) (o := .cells #[.string a2_0, .int .i64 a2_1, .string a2_2, .string a2_3] 42 (0, 0)) (by (with_reducible repeat (first | refine blk_drewN ?_ _ | refine blk_drew ?_ | refine blk_alloc ?_ _)); exact BK102.out) hb); have n2_ := Aside0.mk (below_step (by repeat (first | (with_reducible first | exact HB.out | apply below_alloc | apply pw_below_drewN | apply below_drew1 | refine below_set ?_ GE101.out | refine below_set ?_ GE102.out) | exact HB.out)) hb); clear BK101; clear BK102; clear HB; have BK101 := n0_; have BK102 := n1_; have HB := n2_; clear n0_ n1_ n2_; (try clear hb); (try clear hb2); (try clear hk); (try clear hi); have hnb25 := NB101_102.out; have hnc25 := NB102_101.out; have hcz26_0 : w24.cell? ⟨gb101, 0, none⟩ = some (.string a1_0) := (blk_cell BK101.out 0).trans rfl; have hcz26_1 : w24.cell? ⟨gb101, 1, none⟩ = some (.slice A1_1 l1_1.length c1_1) := (blk_cell BK101.out 1).trans rfl; have hcz26_2 : w24.cell? ⟨gb101, 2, none⟩ = some (.string a1_2) := (blk_cell BK101.out 2).trans rfl; have hcz26_3 : w24.cell? ⟨gb101, 3, none⟩ = some (.string a1_3) := (blk_cell BK101.out 3).trans rfl; have hfz26_0 := blk_frozen BK101.out 0; have hfz26_1 := blk_frozen BK101.out 1; have hfz26_2 := blk_frozen BK101.out 2; have hfz26_3 := blk_frozen BK101.out 3) | (go_at_call 24; (with_reducible refine (PObBase.w04_GreatChange.calls k a1_0 _ _ l1_1 a1_2 a1_3 false _ ?side1 ?side2 A13.out).mono ?_); (case side1 => repeat (first | exact (Kd.C_below HR1_1.out HB.out) | (with_reducible refine Kd.C_alloc ?_ _) | (with_reducible refine Kd.C_drewN ?_ _) | (with_reducible refine Kd.C_drew ?_))); (case side2 => exact HC1_1.out); rintro e w27 ⟨rfl, hb⟩; have n0_ := Aside0.mk (blk_below (g := gb101) (o := .cells #[.string a1_0, .slice A1_1 l1_1.length c1_1, .string a1_2, .string a1_3] 40 (0, 0)) (by (with_reducible repeat (first | refine blk_drewN ?_ _ | refine blk_drew ?_ | refine blk_alloc ?_ _)); exact BK101.out) hb); have n1_ := Aside0.mk (blk_below (g := gb102) (o := .cells #[.string a2_0, .int .i64 a2_1, .string a2_2, .string a2_3] 42 (0, 0)) (by (with_reducible repeat (first | refine blk_drewN ?_ _ | refine blk_drew ?_ | refine blk_alloc ?_ _)); exact BK102.out) hb); have n2_ := Aside0.mk (below_step (by repeat (first | (with_reducible first | exact HB.out | apply below_alloc | apply pw_below_drewN | apply below_drew1 | refine below_set ?_ GE101.out | refine below_set ?_ GE102.out) | exact HB.out)) hb); clear BK101; clear BK102; clear HB; have BK101 := n0_; have BK102 := n1_; have HB := n2_; clear n0_ n1_ n2_; (try clear hb); (try clear hb2); (try clear hk); (try clear hi); have hcz28_0 : w27.cell? ⟨gb102, 0, none⟩ = some (.string a2_0) := (blk_cell BK102.out 0).trans rfl; have hcz28_1 : w27.cell? ⟨gb102, 1, none⟩ = some (.int .i64 a2_1) := (blk_cell BK102.out 1).trans rfl; have hcz28_2 : w27.cell? ⟨gb102, 2, none⟩ = some (.string a2_2) := (blk_cell BK102.out 2).trans rfl; have hcz28_3 : w27.cell? ⟨gb102, 3, none⟩ = some (.string a2_3) := (blk_cell BK102.out 3).trans rfl; have hfz28_0 := blk_frozen BK102.out 0; have hfz28_1 := blk_frozen BK102.out 1; have hfz28_2 := blk_frozen BK102.out 2; have hfz28_3 := blk_frozen BK102.out 3))
     go_meet
     case rel => exact ⟨_, (decide ((wrap64 ((wrap64 ((a2_0.size : Int) + (a2_2.size : Int))) + (a2_3.size : Int))) > 9000)), (by first | rfl | (simp; done) | (simp [*]; done)), H', ⟨by first | omega | exact Nat.le_refl _⟩, ⟨by (with_reducible repeat (first | refine blk_drewN ?_ _ | refine blk_drew ?_ | refine blk_alloc ?_ _)); exact BK101.out⟩, ⟨by (with_reducible repeat (first | refine blk_drewN ?_ _ | refine blk_drew ?_ | refine blk_alloc ?_ _)); exact BK102.out⟩, ⟨by repeat (first | (with_reducible first | exact HB.out | apply below_alloc | apply pw_below_drewN | apply below_drew1 | refine below_set ?_ GE101.out | refine below_set ?_ GE102.out) | exact HB.out)⟩⟩
 case rest =>
  clear HC6
  try clear c1
  try clear c2
  try clear p2
  try clear c6
  try clear p6
  try clear c10
  try clear c11
  try clear c14
  try clear c16
  try clear c18
  try clear c19
  try clear c19b0
  try clear c19b1
  try clear c21
  try clear c25
  try clear hcz17_0
  try clear hcz17_1
  try clear hcz17_2
  try clear hcz17_3
  try clear hcz22_0
  try clear hcz22_1
  try clear hcz22_2
  try clear hcz22_3
  try clear hcz26_0
  try clear hcz26_1
  try clear hcz26_2
  try clear hcz26_3
  try clear hcz28_0
  try clear hcz28_1
  try clear hcz28_2
  try clear hcz28_3
  try clear hfz17_0
  try clear hfz17_1
  try clear hfz17_2
  try clear hfz17_3
  try clear hfz22_0
  try clear hfz22_1
  try clear hfz22_2
  try clear hfz22_3
  try clear hfz26_0
  try clear hfz26_1
  try clear hfz26_2
  try clear hfz26_3
  try clear hfz28_0
  try clear hfz28_1
  try clear hfz28_2
  try clear hfz28_3
  obtain ⟨kq, x59_5, rfl, HA, HJ5, BK101, BK102, HB⟩ := hcut
  cases kq with
  | zero => exact absurd HA.out (by simp [w04_ObjectBack.j0])
  | succ kj5 =>
   have H := HA.out
   clear HA
   simp only [w04_ObjectBack.j0] at H
   by_cases c29 : x59_5 = true
   ·
    subst c29
    have H1 : (some t103) = some r := by rw [if_pos rfl] at H; exact H
    clear H
    have H := H1
    clear H1
    obtain rfl := Option.some.inj H
    go_wp2
    go_ret
    exact ⟨by first | rfl | (simp [errW_none, errW_some] <;> rfl) | (simp [*, errW_none, errW_some] <;> rfl), by repeat (first | (with_reducible first | exact HB.out | apply below_alloc | apply pw_below_drewN | apply below_drew1 | refine below_set ?_ GE101.out | refine below_set ?_ GE102.out) | exact HB.out)⟩
   ·
    replace c29 := Bool.eq_false_iff.mpr c29
    subst c29
    have H1 : ((Ob.Gv.putTree.f l0).bind fun bt106 => (if bt106.2 = true then ((PObGet.object_GetTree.f kj5 bt106.1).bind fun bt108 => (if bt108.2 = true then ((PObBase.r04_SameItems.f kj5 bt108.1 l0).bind fun t112 => (if t112 = true then (w04_ObjectBack.j1 kj5 a3 t103 a1_0 l1_1 a1_2 a1_3 a2_0 a2_1 a2_2 a2_3) else (some false))) else (some false))) else (w04_ObjectBack.j1 kj5 a3 t103 a1_0 l1_1 a1_2 a1_3 a2_0 a2_1 a2_2 a2_3))) = some r := by rw [if_neg (show ¬ (false = true) by decide)] at H; exact H
    clear H
    have H := H1
    clear H1
    replace H := Option.bind_eq_some_iff.mp H
    obtain ⟨⟨t106, t107⟩, A300, H⟩ := H
    replace H : (if t107 = true then ((PObGet.object_GetTree.f kj5 t106).bind fun bt108 => (if bt108.2 = true then ((PObBase.r04_SameItems.f kj5 bt108.1 l0).bind fun t112 => (if t112 = true then (w04_ObjectBack.j1 kj5 a3 t103 a1_0 l1_1 a1_2 a1_3 a2_0 a2_1 a2_2 a2_3) else (some false))) else (some false))) else (w04_ObjectBack.j1 kj5 a3 t103 a1_0 l1_1 a1_2 a1_3 a2_0 a2_1 a2_2 a2_3)) = some r := H
    have A30 := Aside0.mk A300
    clear A300
    have HC31 := Aside0.mk H
    clear H
    go_upto_if 66 with (first | ((with_reducible refine gate_callee (f := 19) rfl ?_); refine goesL_ (some 63) rfl rfl Tryz.func19 (by kernel_rfl) rfl #[.slice A0 l0.length c0] rfl (by (try simp only [List.map_toArray, List.map_cons, List.map_nil]); first | done | rfl | (simp only [List.length_drop, List.length_take]; rfl)) ?_; (with_reducible refine (Ob.Gv.putTree.calls _ _ l0 t106 t107 _ ?side1 ?side2 A30.out (HTAB_.out _ (by first | exact Below.refl _ _ | (with_reducible exact Aside0.out (by assumption)) | repeat (first | (with_reducible exact Aside0.out (by assumption)) | apply below_alloc | apply pw_below_drewN | apply below_drew1 | (refine below_set ?_ ?_; rotate_left; (with_reducible exact Aside0.out (by assumption))))))).mono ?_); (case side1 => repeat (first | exact (Kd.C_below HR0.out HB.out) | (with_reducible refine Kd.C_alloc ?_ _) | (with_reducible refine Kd.C_drewN ?_ _) | (with_reducible refine Kd.C_drew ?_))); (case side2 => exact HC0.out); rintro e w32 ⟨rfl, hb⟩; refine ⟨_, rfl, ?_⟩; have n0_ := Aside0.mk (blk_below (g := gb101) (o := .cells #[.string a1_0, .slice A1_1 l1_1.length c1_1, .string a1_2, .string a1_3] 40 (0, 0)) (by (with_reducible repeat (first | refine blk_drewN ?_ _ | refine blk_drew ?_ | refine blk_alloc ?_ _)); exact BK101.out) hb); have n1_ := Aside0.mk (blk_below (g := gb102) (o := .cells #[.string a2_0, .int .i64 a2_1, .string a2_2, .string a2_3] 42 (0, 0)) (by (with_reducible repeat (first | refine blk_drewN ?_ _ | refine blk_drew ?_ | refine blk_alloc ?_ _)); exact BK102.out) hb); have n2_ := Aside0.mk (below_step (by repeat (first | (with_reducible first | exact HB.out | apply below_alloc | apply pw_below_drewN | apply below_drew1 | refine below_set ?_ GE101.out | refine below_set ?_ GE102.out) | exact HB.out)) hb); clear BK101; clear BK102; clear HB; have BK101 := n0_; have BK102 := n1_; have HB := n2_; clear n0_ n1_ n2_; (try clear hb); (try clear hb2); (try clear hk); (try clear hi)))
    (try simp only [Act.put, List.setIfInBounds_toArray, List.set_cons_zero, List.set_cons_succ])
    go_cut [] (fun wc => ∃ (kq : Nat), Aside0 (w04_ObjectBack.j1 kq a3 t103 a1_0 l1_1 a1_2 a1_3 a2_0 a2_1 a2_2 a2_3 = some r) ∧ Aside0 (kq ≤ kj5) ∧ Aside0 (wc.heap[gb101]? = some (.cells #[.string a1_0, (.slice A1_1 l1_1.length c1_1), .string a1_2, .string a1_3] 40 (0, 0))) ∧ Aside0 (wc.heap[gb102]? = some (.cells #[.string a2_0, .int .i64 a2_1, .string a2_2, .string a2_3] 42 (0, 0))) ∧ Aside0 (Below w.heap.size w wc))
    case first =>
     have H := HC31.out
     clear HC31
     by_cases c33 : t107 = true
     ·
      subst c33
      have H1 : ((PObGet.object_GetTree.f kj5 t106).bind fun bt108 => (if bt108.2 = true then ((PObBase.r04_SameItems.f kj5 bt108.1 l0).bind fun t112 => (if t112 = true then (w04_ObjectBack.j1 kj5 a3 t103 a1_0 l1_1 a1_2 a1_3 a2_0 a2_1 a2_2 a2_3) else (some false))) else (some false))) = some r := by rw [if_pos rfl] at H; exact H
      clear H
      have H := H1
      clear H1
      replace H := Option.bind_eq_some_iff.mp H
      obtain ⟨⟨t108, t109⟩, A340, H⟩ := H
      replace H : (if t109 = true then ((PObBase.r04_SameItems.f kj5 t108 l0).bind fun t112 => (if t112 = true then (w04_ObjectBack.j1 kj5 a3 t103 a1_0 l1_1 a1_2 a1_3 a2_0 a2_1 a2_2 a2_3) else (some false))) else (some false)) = some r := H
      have A34 := Aside0.mk A340
      clear A340
      by_cases c35 : t109 = true
      ·
       subst c35
       have H1 : ((PObBase.r04_SameItems.f kj5 t108 l0).bind fun t112 => (if t112 = true then (w04_ObjectBack.j1 kj5 a3 t103 a1_0 l1_1 a1_2 a1_3 a2_0 a2_1 a2_2 a2_3) else (some false))) = some r := by rw [if_pos rfl] at H; exact H
       clear H
       have H := H1
       clear H1
       replace H := Option.bind_eq_some_iff.mp H
       obtain ⟨t112, A360, H⟩ := H
       replace H : (if t112 = true then (w04_ObjectBack.j1 kj5 a3 t103 a1_0 l1_1 a1_2 a1_3 a2_0 a2_1 a2_2 a2_3) else (some false)) = some r := H
       have A36 := Aside0.mk A360
       clear A360
       by_cases c37 : t112 = true
       ·
        subst c37
        have H1 : (w04_ObjectBack.j1 kj5 a3 t103 a1_0 l1_1 a1_2 a1_3 a2_0 a2_1 a2_2 a2_3) = some r := by rw [if_pos rfl] at H; exact H
        clear H
        have H := H1
        clear H1
        have H' := Aside0.mk H
        clear H
        go_wp2_with (first | ((with_reducible refine gate_callee (f := 21) rfl ?_); refine goesL_ (some 69) rfl rfl Tryz.func21 (by kernel_rfl) rfl #[.string t106] rfl (by (try simp only [List.map_toArray, List.map_cons, List.map_nil]); first | done | rfl | (simp only [List.length_drop, List.length_take]; rfl)) ?_; (with_reducible refine (PObGet.object_GetTree.calls kj5 t106 t108 true _ A34.out (HTAB_.out _ (by first | exact Below.refl _ _ | (with_reducible exact Aside0.out (by assumption)) | repeat (first | (with_reducible exact Aside0.out (by assumption)) | apply below_alloc | apply pw_below_drewN | apply below_drew1 | (refine below_set ?_ ?_; rotate_left; (with_reducible exact Aside0.out (by assumption))))))).mono ?_); rintro e w38 ⟨v110, rfl, ho0, hb⟩; refine ⟨_, rfl, ?_⟩; have n0_ := Aside0.mk (Kd.R_lower ho0 (below_size (by repeat (first | (with_reducible first | exact HB.out | apply below_alloc | apply pw_below_drewN | apply below_drew1 | refine below_set ?_ GE101.out | refine below_set ?_ GE102.out) | exact HB.out)))); have n1_ := Aside0.mk (blk_below (g := gb101) (o := .cells #[.string a1_0, .slice A1_1 l1_1.length c1_1, .string a1_2, .string a1_3] 40 (0, 0)) (by (with_reducible repeat (first | refine blk_drewN ?_ _ | refine blk_drew ?_ | refine blk_alloc ?_ _)); exact BK101.out) hb); have n2_ := Aside0.mk (blk_below (g := gb102) (o := .cells #[.string a2_0, .int .i64 a2_1, .string a2_2, .string a2_3] 42 (0, 0)) (by (with_reducible repeat (first | refine blk_drewN ?_ _ | refine blk_drew ?_ | refine blk_alloc ?_ _)); exact BK102.out) hb); have n3_ := Aside0.mk (below_step (by repeat (first | (with_reducible first | exact HB.out | apply below_alloc | apply pw_below_drewN | apply below_drew1 | refine below_set ?_ GE101.out | refine below_set ?_ GE102.out) | exact HB.out)) hb); clear BK101; clear BK102; clear HB; have HO111 := n0_; have BK101 := n1_; have BK102 := n2_; have HB := n3_; clear n0_ n1_ n2_ n3_; (try clear hb); (try clear hb2); (try clear hk); (try clear hi); (try clear ho0); obtain ⟨Ao39, co39, eo39⟩ := Kd.R_slice HO111.out; subst eo39) | (go_at_call 23; (with_reducible refine (PObBase.r04_SameItems.calls kj5 _ _ t108 _ _ l0 true _ ?side1 ?side2 ?side3 ?side4 A36.out).mono ?_); (case side1 => repeat (first | exact (Kd.R_reads' HO111.out).2.2 | (with_reducible refine Kd.C_alloc ?_ _) | (with_reducible refine Kd.C_drewN ?_ _) | (with_reducible refine Kd.C_drew ?_))); (case side2 => exact (Kd.R_reads' HO111.out).2.1); (case side3 => repeat (first | exact (Kd.C_below HR0.out HB.out) | (with_reducible refine Kd.C_alloc ?_ _) | (with_reducible refine Kd.C_drewN ?_ _) | (with_reducible refine Kd.C_drew ?_))); (case side4 => exact HC0.out); rintro e w' ⟨rfl, ⟨nd, rfl⟩⟩))
        go_meet
        case rel => exact ⟨_, H', ⟨by have := HJ5.out; first | omega | exact Nat.le_refl _⟩, ⟨by (with_reducible repeat (first | refine blk_drewN ?_ _ | refine blk_drew ?_ | refine blk_alloc ?_ _)); exact BK101.out⟩, ⟨by (with_reducible repeat (first | refine blk_drewN ?_ _ | refine blk_drew ?_ | refine blk_alloc ?_ _)); exact BK102.out⟩, ⟨by repeat (first | (with_reducible first | exact HB.out | apply below_alloc | apply pw_below_drewN | apply below_drew1 | refine below_set ?_ GE101.out | refine below_set ?_ GE102.out) | exact HB.out)⟩⟩
       ·
        replace c37 := Bool.eq_false_iff.mpr c37
        subst c37
        have H1 : (some false) = some r := by rw [if_neg (show ¬ (false = true) by decide)] at H; exact H
        clear H
        have H := H1
        clear H1
        obtain rfl := Option.some.inj H
        go_wp2_with (first | ((with_reducible refine gate_callee (f := 21) rfl ?_); refine goesL_ (some 69) rfl rfl Tryz.func21 (by kernel_rfl) rfl #[.string t106] rfl (by (try simp only [List.map_toArray, List.map_cons, List.map_nil]); first | done | rfl | (simp only [List.length_drop, List.length_take]; rfl)) ?_; (with_reducible refine (PObGet.object_GetTree.calls kj5 t106 t108 true _ A34.out (HTAB_.out _ (by first | exact Below.refl _ _ | (with_reducible exact Aside0.out (by assumption)) | repeat (first | (with_reducible exact Aside0.out (by assumption)) | apply below_alloc | apply pw_below_drewN | apply below_drew1 | (refine below_set ?_ ?_; rotate_left; (with_reducible exact Aside0.out (by assumption))))))).mono ?_); rintro e w40 ⟨v110, rfl, ho0, hb⟩; refine ⟨_, rfl, ?_⟩; have n0_ := Aside0.mk (Kd.R_lower ho0 (below_size (by repeat (first | (with_reducible first | exact HB.out | apply below_alloc | apply pw_below_drewN | apply below_drew1 | refine below_set ?_ GE101.out | refine below_set ?_ GE102.out) | exact HB.out)))); have n1_ := Aside0.mk (blk_below (g := gb101) (o := .cells #[.string a1_0, .slice A1_1 l1_1.length c1_1, .string a1_2, .string a1_3] 40 (0, 0)) (by (with_reducible repeat (first | refine blk_drewN ?_ _ | refine blk_drew ?_ | refine blk_alloc ?_ _)); exact BK101.out) hb); have n2_ := Aside0.mk (blk_below (g := gb102) (o := .cells #[.string a2_0, .int .i64 a2_1, .string a2_2, .string a2_3] 42 (0, 0)) (by (with_reducible repeat (first | refine blk_drewN ?_ _ | refine blk_drew ?_ | refine blk_alloc ?_ _)); exact BK102.out) hb); have n3_ := Aside0.mk (below_step (by repeat (first | (with_reducible first | exact HB.out | apply below_alloc | apply pw_below_drewN | apply below_drew1 | refine below_set ?_ GE101.out | refine below_set ?_ GE102.out) | exact HB.out)) hb); clear BK101; clear BK102; clear HB; have HO111 := n0_; have BK101 := n1_; have BK102 := n2_; have HB := n3_; clear n0_ n1_ n2_ n3_; (try clear hb); (try clear hb2); (try clear hk); (try clear hi); (try clear ho0); obtain ⟨Ao41, co41, eo41⟩ := Kd.R_slice HO111.out; subst eo41) | (go_at_call 23; (with_reducible refine (PObBase.r04_SameItems.calls kj5 _ _ t108 _ _ l0 false _ ?side1 ?side2 ?side3 ?side4 A36.out).mono ?_); (case side1 => repeat (first | exact (Kd.R_reads' HO111.out).2.2 | (with_reducible refine Kd.C_alloc ?_ _) | (with_reducible refine Kd.C_drewN ?_ _) | (with_reducible refine Kd.C_drew ?_))); (case side2 => exact (Kd.R_reads' HO111.out).2.1); (case side3 => repeat (first | exact (Kd.C_below HR0.out HB.out) | (with_reducible refine Kd.C_alloc ?_ _) | (with_reducible refine Kd.C_drewN ?_ _) | (with_reducible refine Kd.C_drew ?_))); (case side4 => exact HC0.out); rintro e w' ⟨rfl, ⟨nd, rfl⟩⟩))
        go_ret
        exact ⟨by first | rfl | (simp [errW_none, errW_some] <;> rfl) | (simp [*, errW_none, errW_some] <;> rfl), by repeat (first | (with_reducible first | exact HB.out | apply below_alloc | apply pw_below_drewN | apply below_drew1 | refine below_set ?_ GE101.out | refine below_set ?_ GE102.out) | exact HB.out)⟩
      ·
       replace c35 := Bool.eq_false_iff.mpr c35
       subst c35
       have H1 : (some false) = some r := by rw [if_neg (show ¬ (false = true) by decide)] at H; exact H
       clear H
       have H := H1
       clear H1
       obtain rfl := Option.some.inj H
       go_wp2_with (first | ((with_reducible refine gate_callee (f := 21) rfl ?_); refine goesL_ (some 69) rfl rfl Tryz.func21 (by kernel_rfl) rfl #[.string t106] rfl (by (try simp only [List.map_toArray, List.map_cons, List.map_nil]); first | done | rfl | (simp only [List.length_drop, List.length_take]; rfl)) ?_; (with_reducible refine (PObGet.object_GetTree.calls kj5 t106 t108 false _ A34.out (HTAB_.out _ (by first | exact Below.refl _ _ | (with_reducible exact Aside0.out (by assumption)) | repeat (first | (with_reducible exact Aside0.out (by assumption)) | apply below_alloc | apply pw_below_drewN | apply below_drew1 | (refine below_set ?_ ?_; rotate_left; (with_reducible exact Aside0.out (by assumption))))))).mono ?_); rintro e w42 ⟨v110, rfl, ho0, hb⟩; refine ⟨_, rfl, ?_⟩; have n0_ := Aside0.mk (Kd.R_lower ho0 (below_size (by repeat (first | (with_reducible first | exact HB.out | apply below_alloc | apply pw_below_drewN | apply below_drew1 | refine below_set ?_ GE101.out | refine below_set ?_ GE102.out) | exact HB.out)))); have n1_ := Aside0.mk (blk_below (g := gb101) (o := .cells #[.string a1_0, .slice A1_1 l1_1.length c1_1, .string a1_2, .string a1_3] 40 (0, 0)) (by (with_reducible repeat (first | refine blk_drewN ?_ _ | refine blk_drew ?_ | refine blk_alloc ?_ _)); exact BK101.out) hb); have n2_ := Aside0.mk (blk_below (g := gb102) (o := .cells #[.string a2_0, .int .i64 a2_1, .string a2_2, .string a2_3] 42 (0, 0)) (by (with_reducible repeat (first | refine blk_drewN ?_ _ | refine blk_drew ?_ | refine blk_alloc ?_ _)); exact BK102.out) hb); have n3_ := Aside0.mk (below_step (by repeat (first | (with_reducible first | exact HB.out | apply below_alloc | apply pw_below_drewN | apply below_drew1 | refine below_set ?_ GE101.out | refine below_set ?_ GE102.out) | exact HB.out)) hb); clear BK101; clear BK102; clear HB; have HO111 := n0_; have BK101 := n1_; have BK102 := n2_; have HB := n3_; clear n0_ n1_ n2_ n3_; (try clear hb); (try clear hb2); (try clear hk); (try clear hi); (try clear ho0)))
       go_ret
       exact ⟨by first | rfl | (simp [errW_none, errW_some] <;> rfl) | (simp [*, errW_none, errW_some] <;> rfl), by repeat (first | (with_reducible first | exact HB.out | apply below_alloc | apply pw_below_drewN | apply below_drew1 | refine below_set ?_ GE101.out | refine below_set ?_ GE102.out) | exact HB.out)⟩
     ·
      replace c33 := Bool.eq_false_iff.mpr c33
      subst c33
      have H1 : (w04_ObjectBack.j1 kj5 a3 t103 a1_0 l1_1 a1_2 a1_3 a2_0 a2_1 a2_2 a2_3) = some r := by rw [if_neg (show ¬ (false = true) by decide)] at H; exact H
      clear H
      have H := H1
      clear H1
      have H' := Aside0.mk H
      clear H
      go_wp2
      go_meet
      case rel => exact ⟨_, H', ⟨by have := HJ5.out; first | omega | exact Nat.le_refl _⟩, ⟨by (with_reducible repeat (first | refine blk_drewN ?_ _ | refine blk_drew ?_ | refine blk_alloc ?_ _)); exact BK101.out⟩, ⟨by (with_reducible repeat (first | refine blk_drewN ?_ _ | refine blk_drew ?_ | refine blk_alloc ?_ _)); exact BK102.out⟩, ⟨by repeat (first | (with_reducible first | exact HB.out | apply below_alloc | apply pw_below_drewN | apply below_drew1 | refine below_set ?_ GE101.out | refine below_set ?_ GE102.out) | exact HB.out)⟩⟩
    case rest =>
     clear HC31
     try clear c1
     try clear c2
     try clear p2
     try clear c3
     try clear c6
     try clear p6
     try clear c10
     try clear c11
     try clear c14
     try clear c16
     try clear c18
     try clear c19
     try clear c19b0
     try clear c19b1
     try clear c21
     try clear c25
     try clear c29
     try clear c33
     try clear c35
     try clear c37
     try clear hcz17_0
     try clear hcz17_1
     try clear hcz17_2
     try clear hcz17_3
     try clear hcz22_0
     try clear hcz22_1
     try clear hcz22_2
     try clear hcz22_3
     try clear hcz26_0
     try clear hcz26_1
     try clear hcz26_2
     try clear hcz26_3
     try clear hcz28_0
     try clear hcz28_1
     try clear hcz28_2
     try clear hcz28_3
     try clear hfz17_0
     try clear hfz17_1
     try clear hfz17_2
     try clear hfz17_3
     try clear hfz22_0
     try clear hfz22_1
     try clear hfz22_2
     try clear hfz22_3
     try clear hfz26_0
     try clear hfz26_1
     try clear hfz26_2
     try clear hfz26_3
     try clear hfz28_0
     try clear hfz28_1
     try clear hfz28_2
     try clear hfz28_3
     try clear p2
     try clear p6
     obtain ⟨kq, HA, HJ30, BK101, BK102, HB⟩ := hcut
     cases kq with
     | zero => exact absurd HA.out (by simp [w04_ObjectBack.j1])
     | succ kj30 =>
      have H := HA.out
      clear HA
      simp only [w04_ObjectBack.j1] at H
      replace H := Option.bind_eq_some_iff.mp H
      obtain ⟨⟨t113, t114⟩, A430, H⟩ := H
      replace H : (if t114 = true then ((Ob.Gv.getChange.f t113).bind fun bt115 => (if bt115.2.2.2.2 = true then ((PObBase.r04_SameChange.f kj30 bt115.1 bt115.2.1 bt115.2.2.1 bt115.2.2.2.1 a1_0 l1_1 a1_2 a1_3).bind fun t123 => (if t123 = true then (w04_ObjectBack.j2 kj30 a3 t103 a2_0 a2_1 a2_2 a2_3) else (some false))) else (some false))) else (w04_ObjectBack.j2 kj30 a3 t103 a2_0 a2_1 a2_2 a2_3)) = some r := H
      have A43 := Aside0.mk A430
      clear A430
      have HC44 := Aside0.mk H
      clear H
      have hnb45 := NB101_102.out
      have hnc45 := NB102_101.out
      have hcz46_0 : wc.cell? ⟨gb101, 0, none⟩ = some (.string a1_0) := (blk_cell BK101.out 0).trans rfl
      have hcz46_1 : wc.cell? ⟨gb101, 1, none⟩ = some (.slice A1_1 l1_1.length c1_1) := (blk_cell BK101.out 1).trans rfl
      have hcz46_2 : wc.cell? ⟨gb101, 2, none⟩ = some (.string a1_2) := (blk_cell BK101.out 2).trans rfl
      have hcz46_3 : wc.cell? ⟨gb101, 3, none⟩ = some (.string a1_3) := (blk_cell BK101.out 3).trans rfl
      have hfz46_0 := blk_frozen BK101.out 0
      have hfz46_1 := blk_frozen BK101.out 1
      have hfz46_2 := blk_frozen BK101.out 2
      have hfz46_3 := blk_frozen BK101.out 3
      go_upto_if 85 with (first | ((with_reducible refine gate_callee (f := 25) rfl ?_); refine goesL_ (some 82) rfl rfl Tryz.func25 (by kernel_rfl) rfl #[.agg #[.string a1_0, .slice A1_1 l1_1.length c1_1, .string a1_2, .string a1_3]] rfl (by (try simp only [List.map_toArray, List.map_cons, List.map_nil]); first | done | rfl | (simp only [List.length_drop, List.length_take]; rfl)) ?_; (with_reducible refine (Ob.Gv.putChange.calls a1_0 _ _ l1_1 a1_2 a1_3 t113 t114 _ ?side1 ?side2 A43.out).mono ?_); (case side1 => repeat (first | exact (Kd.C_below HR1_1.out HB.out) | (with_reducible refine Kd.C_alloc ?_ _) | (with_reducible refine Kd.C_drewN ?_ _) | (with_reducible refine Kd.C_drew ?_))); (case side2 => exact HC1_1.out); rintro e w47 ⟨rfl, hb⟩; refine ⟨_, rfl, ?_⟩; have n0_ := Aside0.mk (blk_below (g := gb101) (o := .cells #[.string a1_0, .slice A1_1 l1_1.length c1_1, .string a1_2, .string a1_3] 40 (0, 0)) (by (with_reducible repeat (first | refine blk_drewN ?_ _ | refine blk_drew ?_ | refine blk_alloc ?_ _)); exact BK101.out) hb); have n1_ := Aside0.mk (blk_below (g := gb102) (o := .cells #[.string a2_0, .int .i64 a2_1, .string a2_2, .string a2_3] 42 (0, 0)) (by (with_reducible repeat (first | refine blk_drewN ?_ _ | refine blk_drew ?_ | refine blk_alloc ?_ _)); exact BK102.out) hb); have n2_ := Aside0.mk (below_step (by repeat (first | (with_reducible first | exact HB.out | apply below_alloc | apply pw_below_drewN | apply below_drew1 | refine below_set ?_ GE101.out | refine below_set ?_ GE102.out) | exact HB.out)) hb); clear BK101; clear BK102; clear HB; have BK101 := n0_; have BK102 := n1_; have HB := n2_; clear n0_ n1_ n2_; (try clear hb); (try clear hb2); (try clear hk); (try clear hi)))
      (try simp only [Act.put, List.setIfInBounds_toArray, List.set_cons_zero, List.set_cons_succ])
      go_cut [] (fun wc => ∃ (kq : Nat), Aside0 (w04_ObjectBack.j2 kq a3 t103 a2_0 a2_1 a2_2 a2_3 = some r) ∧ Aside0 (kq ≤ kj30) ∧ Aside0 (wc.heap[gb101]? = some (.cells #[.string a1_0, (.slice A1_1 l1_1.length c1_1), .string a1_2, .string a1_3] 40 (0, 0))) ∧ Aside0 (wc.heap[gb102]? = some (.cells #[.string a2_0, .int .i64 a2_1, .string a2_2, .string a2_3] 42 (0, 0))) ∧ Aside0 (Below w.heap.size w wc))
      case first =>
       have H := HC44.out
       clear HC44
       by_cases c48 : t114 = true
       ·
        subst c48
        have H1 : ((Ob.Gv.getChange.f t113).bind fun bt115 => (if bt115.2.2.2.2 = true then ((PObBase.r04_SameChange.f kj30 bt115.1 bt115.2.1 bt115.2.2.1 bt115.2.2.2.1 a1_0 l1_1 a1_2 a1_3).bind fun t123 => (if t123 = true then (w04_ObjectBack.j2 kj30 a3 t103 a2_0 a2_1 a2_2 a2_3) else (some false))) else (some false))) = some r := by rw [if_pos rfl] at H; exact H
        clear H
        have H := H1
        clear H1
        replace H := Option.bind_eq_some_iff.mp H
        obtain ⟨⟨t115, t116, t119, t120, t121⟩, A490, H⟩ := H
        replace H : (if t121 = true then ((PObBase.r04_SameChange.f kj30 t115 t116 t119 t120 a1_0 l1_1 a1_2 a1_3).bind fun t123 => (if t123 = true then (w04_ObjectBack.j2 kj30 a3 t103 a2_0 a2_1 a2_2 a2_3) else (some false))) else (some false)) = some r := H
        have A49 := Aside0.mk A490
        clear A490
        by_cases c50 : t121 = true
        ·
         subst c50
         have H1 : ((PObBase.r04_SameChange.f kj30 t115 t116 t119 t120 a1_0 l1_1 a1_2 a1_3).bind fun t123 => (if t123 = true then (w04_ObjectBack.j2 kj30 a3 t103 a2_0 a2_1 a2_2 a2_3) else (some false))) = some r := by rw [if_pos rfl] at H; exact H
         clear H
         have H := H1
         clear H1
         replace H := Option.bind_eq_some_iff.mp H
         obtain ⟨t123, A510, H⟩ := H
         replace H : (if t123 = true then (w04_ObjectBack.j2 kj30 a3 t103 a2_0 a2_1 a2_2 a2_3) else (some false)) = some r := H
         have A51 := Aside0.mk A510
         clear A510
         by_cases c52 : t123 = true
         ·
          subst c52
          have H1 : (w04_ObjectBack.j2 kj30 a3 t103 a2_0 a2_1 a2_2 a2_3) = some r := by rw [if_pos rfl] at H; exact H
          clear H
          have H := H1
          clear H1
          have H' := Aside0.mk H
          clear H
          go_wp2_with (first | ((with_reducible refine gate_callee (f := 29) rfl ?_); refine goesL_ (some 88) rfl rfl Tryz.func29 (by kernel_rfl) rfl #[.string t113] rfl (by (try simp only [List.map_toArray, List.map_cons, List.map_nil]); first | done | rfl | (simp only [List.length_drop, List.length_take]; rfl)) ?_; (with_reducible refine (Ob.Gv.getChange.calls t113 t115 t116 t119 t120 true _ A49.out).mono ?_); rintro e w53 ⟨v117, rfl, ho0, hb⟩; refine ⟨_, rfl, ?_⟩; have n0_ := Aside0.mk (Kd.R_lower ho0 (below_size (by repeat (first | (with_reducible first | exact HB.out | apply below_alloc | apply pw_below_drewN | apply below_drew1 | refine below_set ?_ GE101.out | refine below_set ?_ GE102.out) | exact HB.out)))); have n1_ := Aside0.mk (blk_below (g := gb101) (o := .cells #[.string a1_0, .slice A1_1 l1_1.length c1_1, .string a1_2, .string a1_3] 40 (0, 0)) (by (with_reducible repeat (first | refine blk_drewN ?_ _ | refine blk_drew ?_ | refine blk_alloc ?_ _)); exact BK101.out) hb); have n2_ := Aside0.mk (blk_below (g := gb102) (o := .cells #[.string a2_0, .int .i64 a2_1, .string a2_2, .string a2_3] 42 (0, 0)) (by (with_reducible repeat (first | refine blk_drewN ?_ _ | refine blk_drew ?_ | refine blk_alloc ?_ _)); exact BK102.out) hb); have n3_ := Aside0.mk (below_step (by repeat (first | (with_reducible first | exact HB.out | apply below_alloc | apply pw_below_drewN | apply below_drew1 | refine below_set ?_ GE101.out | refine below_set ?_ GE102.out) | exact HB.out)) hb); clear BK101; clear BK102; clear HB; have HO118 := n0_; have BK101 := n1_; have BK102 := n2_; have HB := n3_; clear n0_ n1_ n2_ n3_; (try clear hb); (try clear hb2); (try clear hk); (try clear hi); (try clear ho0)) | ((with_reducible refine gate_dst (N := 16) rfl ?_); (try (refine gate_guard (by rfl) ?_; dsimp only)); refine box_event ?hg (N := 16) ?hd (cs := #[.string (⟨#[]⟩ : ByteArray), .slice none 0 0, .string (⟨#[]⟩ : ByteArray), .string (⟨#[]⟩ : ByteArray)]) (t := 40) ?hr ?_; (case hd => rfl); (case hg => rfl); (case hr => first | (go_simp; done) | (go_simp; rfl)); intro gb122 hg w54 hbox hb; have n0_ := Aside0.mk (Kd.R_below (by (with_reducible repeat (first | apply Kd.R_alloc | apply Kd.R_drewN | apply Kd.R_drew)); exact HO118.out) hb); have n1_ := Aside0.mk (blk_below (g := gb101) (o := .cells #[.string a1_0, .slice A1_1 l1_1.length c1_1, .string a1_2, .string a1_3] 40 (0, 0)) (by (with_reducible repeat (first | refine blk_drewN ?_ _ | refine blk_drew ?_ | refine blk_alloc ?_ _)); exact BK101.out) hb); have n2_ := Aside0.mk (blk_below (g := gb102) (o := .cells #[.string a2_0, .int .i64 a2_1, .string a2_2, .string a2_3] 42 (0, 0)) (by (with_reducible repeat (first | refine blk_drewN ?_ _ | refine blk_drew ?_ | refine blk_alloc ?_ _)); exact BK102.out) hb); have n3_ := Aside0.mk (below_step (by repeat (first | (with_reducible first | exact HB.out | apply below_alloc | apply pw_below_drewN | apply below_drew1 | refine below_set ?_ GE101.out | refine below_set ?_ GE102.out) | exact HB.out)) hb); have n4_ := Aside0.mk (hbox); have n5_ := Aside0.mk ((by rw [hg]; exact (below_size (by repeat (first | (with_reducible first | exact HB.out | apply below_alloc | apply pw_below_drewN | apply below_drew1 | refine below_set ?_ GE101.out | refine below_set ?_ GE102.out) | exact HB.out))) : w.heap.size ≤ gb122)); have n6_ := Aside0.mk ((by rw [hg]; exact (below_size (by repeat (first | (with_reducible first | exact HB.out | apply below_alloc | apply pw_below_drewN | apply below_drew1 | refine below_set ?_ GE101.out | refine below_set ?_ GE102.out) | exact HB.out))) : w.heap.size ≤ gb122)); have n7_ := Aside0.mk ((by rw [hg]; exact Nat.ne_of_lt (blk_lt (g := gb101) (o := .cells #[.string a1_0, .slice A1_1 l1_1.length c1_1, .string a1_2, .string a1_3] 40 (0, 0)) (by (with_reducible repeat (first | refine blk_drewN ?_ _ | refine blk_drew ?_ | refine blk_alloc ?_ _)); exact BK101.out)) : gb101 ≠ gb122)); have n8_ := Aside0.mk ((by rw [hg]; exact Nat.ne_of_gt (blk_lt (g := gb101) (o := .cells #[.string a1_0, .slice A1_1 l1_1.length c1_1, .string a1_2, .string a1_3] 40 (0, 0)) (by (with_reducible repeat (first | refine blk_drewN ?_ _ | refine blk_drew ?_ | refine blk_alloc ?_ _)); exact BK101.out)) : gb122 ≠ gb101)); have n9_ := Aside0.mk ((by rw [hg]; exact Nat.ne_of_lt (blk_lt (g := gb102) (o := .cells #[.string a2_0, .int .i64 a2_1, .string a2_2, .string a2_3] 42 (0, 0)) (by (with_reducible repeat (first | refine blk_drewN ?_ _ | refine blk_drew ?_ | refine blk_alloc ?_ _)); exact BK102.out)) : gb102 ≠ gb122)); have n10_ := Aside0.mk ((by rw [hg]; exact Nat.ne_of_gt (blk_lt (g := gb102) (o := .cells #[.string a2_0, .int .i64 a2_1, .string a2_2, .string a2_3] 42 (0, 0)) (by (with_reducible repeat (first | refine blk_drewN ?_ _ | refine blk_drew ?_ | refine blk_alloc ?_ _)); exact BK102.out)) : gb122 ≠ gb102)); clear HO118; clear BK101; clear BK102; clear HB; have HO118 := n0_; have BK101 := n1_; have BK102 := n2_; have HB := n3_; have BK122 := n4_; have GW122 := n5_; have GE122 := n6_; have NB101_122 := n7_; have NB122_101 := n8_; have NB102_122 := n9_; have NB122_102 := n10_; clear n0_ n1_ n2_ n3_ n4_ n5_ n6_ n7_ n8_ n9_ n10_; clear hb hbox hg; have hnb55 := NB122_101.out; have hnc55 := NB101_122.out; have hnb56 := NB122_102.out; have hnc56 := NB102_122.out; have hcz57_0 : w54.cell? ⟨gb122, 0, none⟩ = some (.string (⟨#[]⟩ : ByteArray)) := (blk_cell BK122.out 0).trans rfl; have hcz57_1 : w54.cell? ⟨gb122, 1, none⟩ = some (.slice none 0 0) := (blk_cell BK122.out 1).trans rfl; have hcz57_2 : w54.cell? ⟨gb122, 2, none⟩ = some (.string (⟨#[]⟩ : ByteArray)) := (blk_cell BK122.out 2).trans rfl; have hcz57_3 : w54.cell? ⟨gb122, 3, none⟩ = some (.string (⟨#[]⟩ : ByteArray)) := (blk_cell BK122.out 3).trans rfl; have hfz57_0 := blk_frozen BK122.out 0; have hfz57_1 := blk_frozen BK122.out 1; have hfz57_2 := blk_frozen BK122.out 2; have hfz57_3 := blk_frozen BK122.out 3; obtain ⟨Ao58, co58, eo58⟩ := Kd.R_slice HO118.out; subst eo58; have hnb59 := NB101_102.out; have hnc59 := NB102_101.out; have hcz60_0 : w54.cell? ⟨gb101, 0, none⟩ = some (.string a1_0) := (blk_cell BK101.out 0).trans rfl; have hcz60_1 : w54.cell? ⟨gb101, 1, none⟩ = some (.slice A1_1 l1_1.length c1_1) := (blk_cell BK101.out 1).trans rfl; have hcz60_2 : w54.cell? ⟨gb101, 2, none⟩ = some (.string a1_2) := (blk_cell BK101.out 2).trans rfl; have hcz60_3 : w54.cell? ⟨gb101, 3, none⟩ = some (.string a1_3) := (blk_cell BK101.out 3).trans rfl; have hfz60_0 := blk_frozen BK101.out 0; have hfz60_1 := blk_frozen BK101.out 1; have hfz60_2 := blk_frozen BK101.out 2; have hfz60_3 := blk_frozen BK101.out 3) | (go_at_call 33; (with_reducible refine (PObBase.r04_SameChange.calls kj30 t115 _ _ t116 t119 t120 a1_0 _ _ l1_1 a1_2 a1_3 true _ ?side1 ?side2 ?side3 ?side4 A51.out).mono ?_); (case side1 => refine (Kd.R_reads' (e := 9) (base := w.heap.size) (ok := fun k_ => True) (n := t116.length) (c := co58) ?_).2.2; exact (by (with_reducible repeat (first | apply Kd.R_alloc | apply Kd.R_drewN | apply Kd.R_drew)); exact (Kd.R_mono (Kd.R_far (p := ⟨gb122, 3, none⟩) (Kd.R_far (p := ⟨gb122, 2, none⟩) (Kd.R_far (p := ⟨gb122, 1, none⟩) (Kd.R_far (p := ⟨gb122, 0, none⟩) (Kd.R_types HO118.out BK122.out (by decide)) (fun _ hk => hk.2) (.string t115)) (fun _ hk => hk.2) (.slice Ao58 t116.length co58)) (fun _ hk => hk.2) (.string t119)) (fun _ hk => hk.2) (.string t120)) (fun _ h_ => h_.1)))); (case side2 => exact (Kd.R_reads' HO118.out).2.1); (case side3 => exact Kd.C_below HR1_1.out (by repeat (first | (with_reducible first | exact HB.out | apply below_alloc | apply pw_below_drewN | apply below_drew1 | refine below_set ?_ GE101.out | refine below_set ?_ GE102.out | refine below_set ?_ GE122.out) | exact HB.out))); (case side4 => exact HC1_1.out); rintro e w61 ⟨rfl, hb⟩; have n0_ := Aside0.mk (Kd.R_below (by (with_reducible repeat (first | apply Kd.R_alloc | apply Kd.R_drewN | apply Kd.R_drew)); exact (Kd.R_mono (Kd.R_far (p := ⟨gb122, 3, none⟩) (Kd.R_far (p := ⟨gb122, 2, none⟩) (Kd.R_far (p := ⟨gb122, 1, none⟩) (Kd.R_far (p := ⟨gb122, 0, none⟩) (Kd.R_types HO118.out BK122.out (by decide)) (fun _ hk => hk.2) (.string t115)) (fun _ hk => hk.2) (.slice Ao58 t116.length co58)) (fun _ hk => hk.2) (.string t119)) (fun _ hk => hk.2) (.string t120)) (fun _ h_ => h_.1))) hb); have n1_ := Aside0.mk (blk_below (g := gb101) (o := .cells #[.string a1_0, .slice A1_1 l1_1.length c1_1, .string a1_2, .string a1_3] 40 (0, 0)) (by (with_reducible repeat (first | refine blk_drewN ?_ _ | refine blk_drew ?_ | refine blk_alloc ?_ _)); refine blk_far ?_ NB101_122.out _; (with_reducible repeat (first | refine blk_drewN ?_ _ | refine blk_drew ?_ | refine blk_alloc ?_ _)); refine blk_far ?_ NB101_122.out _; (with_reducible repeat (first | refine blk_drewN ?_ _ | refine blk_drew ?_ | refine blk_alloc ?_ _)); refine blk_far ?_ NB101_122.out _; (with_reducible repeat (first | refine blk_drewN ?_ _ | refine blk_drew ?_ | refine blk_alloc ?_ _)); refine blk_far ?_ NB101_122.out _; (with_reducible repeat (first | refine blk_drewN ?_ _ | refine blk_drew ?_ | refine blk_alloc ?_ _)); exact BK101.out) hb); have n2_ := Aside0.mk (blk_below (g := gb102) (o := .cells #[.string a2_0, .int .i64 a2_1, .string a2_2, .string a2_3] 42 (0, 0)) (by (with_reducible repeat (first | refine blk_drewN ?_ _ | refine blk_drew ?_ | refine blk_alloc ?_ _)); refine blk_far ?_ NB102_122.out _; (with_reducible repeat (first | refine blk_drewN ?_ _ | refine blk_drew ?_ | refine blk_alloc ?_ _)); refine blk_far ?_ NB102_122.out _; (with_reducible repeat (first | refine blk_drewN ?_ _ | refine blk_drew ?_ | refine blk_alloc ?_ _)); refine blk_far ?_ NB102_122.out _; (with_reducible repeat (first | refine blk_drewN ?_ _ | refine blk_drew ?_ | refine blk_alloc ?_ _)); refine blk_far ?_ NB102_122.out _; (with_reducible repeat (first | refine blk_drewN ?_ _ | refine blk_drew ?_ | refine blk_alloc ?_ _)); exact BK102.out) hb); have n3_ := Aside0.mk (blk_below (g := gb122) (o := .cells #[.string t115, .slice Ao58 t116.length co58, .string t119, .string t120] 40 (0, 0)) (by (with_reducible repeat (first | refine blk_drewN ?_ _ | refine blk_drew ?_ | refine blk_alloc ?_ _)); refine blk_put (cs := #[.string t115, .slice Ao58 t116.length co58, .string t119, .string (⟨#[]⟩ : ByteArray)]) ?_ 3 _ rfl; (with_reducible repeat (first | refine blk_drewN ?_ _ | refine blk_drew ?_ | refine blk_alloc ?_ _)); refine blk_put (cs := #[.string t115, .slice Ao58 t116.length co58, .string (⟨#[]⟩ : ByteArray), .string (⟨#[]⟩ : ByteArray)]) ?_ 2 _ rfl; (with_reducible repeat (first | refine blk_drewN ?_ _ | refine blk_drew ?_ | refine blk_alloc ?_ _)); refine blk_put (cs := #[.string t115, .slice none 0 0, .string (⟨#[]⟩ : ByteArray), .string (⟨#[]⟩ : ByteArray)]) ?_ 1 _ rfl; (with_reducible repeat (first | refine blk_drewN ?_ _ | refine blk_drew ?_ | refine blk_alloc ?_ _)); refine blk_put (cs := #[.string (⟨#[]⟩ : ByteArray), .slice none 0 0, .string (⟨#[]⟩ : ByteArray), .string (⟨#[]⟩ : ByteArray)]) ?_ 0 _ rfl; (with_reducible repeat (first | refine blk_drewN ?_ _ | refine blk_drew ?_ | refine blk_alloc ?_ _)); exact BK122.out) hb); have n4_ := Aside0.mk (below_step (by repeat (first | (with_reducible first | exact HB.out | apply below_alloc | apply pw_below_drewN | apply below_drew1 | refine below_set ?_ GE101.out | refine below_set ?_ GE102.out | refine below_set ?_ GE122.out) | exact HB.out)) hb); clear HO118; clear BK101; clear BK102; clear BK122; clear HB; have HO118 := n0_; have BK101 := n1_; have BK102 := n2_; have BK122 := n3_; have HB := n4_; clear n0_ n1_ n2_ n3_ n4_; (try clear hb); (try clear hb2); (try clear hk); (try clear hi)))
          go_meet
          case rel => exact ⟨_, H', ⟨by have := HJ5.out; have := HJ30.out; first | omega | exact Nat.le_refl _⟩, ⟨by (with_reducible repeat (first | refine blk_drewN ?_ _ | refine blk_drew ?_ | refine blk_alloc ?_ _)); exact BK101.out⟩, ⟨by (with_reducible repeat (first | refine blk_drewN ?_ _ | refine blk_drew ?_ | refine blk_alloc ?_ _)); exact BK102.out⟩, ⟨by repeat (first | (with_reducible first | exact HB.out | apply below_alloc | apply pw_below_drewN | apply below_drew1 | refine below_set ?_ GE101.out | refine below_set ?_ GE102.out | refine below_set ?_ GE122.out) | exact HB.out)⟩⟩
         ·
          replace c52 := Bool.eq_false_iff.mpr c52
          subst c52
          have H1 : (some false) = some r := by rw [if_neg (show ¬ (false = true) by decide)] at H; exact H
          clear H
          have H := H1
          clear H1
          obtain rfl := Option.some.inj H
          go_wp2_with (first | ((with_reducible refine gate_callee (f := 29) rfl ?_); refine goesL_ (some 88) rfl rfl Tryz.func29 (by kernel_rfl) rfl #[.string t113] rfl (by (try simp only [List.map_toArray, List.map_cons, List.map_nil]); first | done | rfl | (simp only [List.length_drop, List.length_take]; rfl)) ?_; (with_reducible refine (Ob.Gv.getChange.calls t113 t115 t116 t119 t120 true _ A49.out).mono ?_); rintro e w62 ⟨v117, rfl, ho0, hb⟩; refine ⟨_, rfl, ?_⟩; have n0_ := Aside0.mk (Kd.R_lower ho0 (below_size (by repeat (first | (with_reducible first | exact HB.out | apply below_alloc | apply pw_below_drewN | apply below_drew1 | refine below_set ?_ GE101.out | refine below_set ?_ GE102.out) | exact HB.out)))); have n1_ := Aside0.mk (blk_below (g := gb101) (o := .cells #[.string a1_0, .slice A1_1 l1_1.length c1_1, .string a1_2, .string a1_3] 40 (0, 0)) (by (with_reducible repeat (first | refine blk_drewN ?_ _ | refine blk_drew ?_ | refine blk_alloc ?_ _)); exact BK101.out) hb); have n2_ := Aside0.mk (blk_below (g := gb102) (o := .cells #[.string a2_0, .int .i64 a2_1, .string a2_2, .string a2_3] 42 (0, 0)) (by (with_reducible repeat (first | refine blk_drewN ?_ _ | refine blk_drew ?_ | refine blk_alloc ?_ _)); exact BK102.out) hb); have n3_ := Aside0.mk (below_step (by repeat (first | (with_reducible first | exact HB.out | apply below_alloc | apply pw_below_drewN | apply below_drew1 | refine below_set ?_ GE101.out | refine below_set ?_ GE102.out) | exact HB.out)) hb); clear BK101; clear BK102; clear HB; have HO118 := n0_; have BK101 := n1_; have BK102 := n2_; have HB := n3_; clear n0_ n1_ n2_ n3_; (try clear hb); (try clear hb2); (try clear hk); (try clear hi); (try clear ho0)) | ((with_reducible refine gate_dst (N := 16) rfl ?_); (try (refine gate_guard (by rfl) ?_; dsimp only)); refine box_event ?hg (N := 16) ?hd (cs := #[.string (⟨#[]⟩ : ByteArray), .slice none 0 0, .string (⟨#[]⟩ : ByteArray), .string (⟨#[]⟩ : ByteArray)]) (t := 40) ?hr ?_; (case hd => rfl); (case hg => rfl); (case hr => first | (go_simp; done) | (go_simp; rfl)); intro gb122 hg w63 hbox hb; have n0_ := Aside0.mk (Kd.R_below (by (with_reducible repeat (first | apply Kd.R_alloc | apply Kd.R_drewN | apply Kd.R_drew)); exact HO118.out) hb); have n1_ := Aside0.mk (blk_below (g := gb101) (o := .cells #[.string a1_0, .slice A1_1 l1_1.length c1_1, .string a1_2, .string a1_3] 40 (0, 0)) (by (with_reducible repeat (first | refine blk_drewN ?_ _ | refine blk_drew ?_ | refine blk_alloc ?_ _)); exact BK101.out) hb); have n2_ := Aside0.mk (blk_below (g := gb102) (o := .cells #[.string a2_0, .int .i64 a2_1, .string a2_2, .string a2_3] 42 (0, 0)) (by (with_reducible repeat (first | refine blk_drewN ?_ _ | refine blk_drew ?_ | refine blk_alloc ?_ _)); exact BK102.out) hb); have n3_ := Aside0.mk (below_step (by repeat (first | (with_reducible first | exact HB.out | apply below_alloc | apply pw_below_drewN | apply below_drew1 | refine below_set ?_ GE101.out | refine below_set ?_ GE102.out) | exact HB.out)) hb); have n4_ := Aside0.mk (hbox); have n5_ := Aside0.mk ((by rw [hg]; exact (below_size (by repeat (first | (with_reducible first | exact HB.out | apply below_alloc | apply pw_below_drewN | apply below_drew1 | refine below_set ?_ GE101.out | refine below_set ?_ GE102.out) | exact HB.out))) : w.heap.size ≤ gb122)); have n6_ := Aside0.mk ((by rw [hg]; exact (below_size (by repeat (first | (with_reducible first | exact HB.out | apply below_alloc | apply pw_below_drewN | apply below_drew1 | refine below_set ?_ GE101.out | refine below_set ?_ GE102.out) | exact HB.out))) : w.heap.size ≤ gb122)); have n7_ := Aside0.mk ((by rw [hg]; exact Nat.ne_of_lt (blk_lt (g := gb101) (o := .cells #[.string a1_0, .slice A1_1 l1_1.length c1_1, .string a1_2, .string a1_3] 40 (0, 0)) (by (with_reducible repeat (first | refine blk_drewN ?_ _ | refine blk_drew ?_ | refine blk_alloc ?_ _)); exact BK101.out)) : gb101 ≠ gb122)); have n8_ := Aside0.mk ((by rw [hg]; exact Nat.ne_of_gt (blk_lt (g := gb101) (o := .cells #[.string a1_0, .slice A1_1 l1_1.length c1_1, .string a1_2, .string a1_3] 40 (0, 0)) (by (with_reducible repeat (first | refine blk_drewN ?_ _ | refine blk_drew ?_ | refine blk_alloc ?_ _)); exact BK101.out)) : gb122 ≠ gb101)); have n9_ := Aside0.mk ((by rw [hg]; exact Nat.ne_of_lt (blk_lt (g := gb102) (o := .cells #[.string a2_0, .int .i64 a2_1, .string a2_2, .string a2_3] 42 (0, 0)) (by (with_reducible repeat (first | refine blk_drewN ?_ _ | refine blk_drew ?_ | refine blk_alloc ?_ _)); exact BK102.out)) : gb102 ≠ gb122)); have n10_ := Aside0.mk ((by rw [hg]; exact Nat.ne_of_gt (blk_lt (g := gb102) (o := .cells #[.string a2_0, .int .i64 a2_1, .string a2_2, .string a2_3] 42 (0, 0)) (by (with_reducible repeat (first | refine blk_drewN ?_ _ | refine blk_drew ?_ | refine blk_alloc ?_ _)); exact BK102.out)) : gb122 ≠ gb102)); clear HO118; clear BK101; clear BK102; clear HB; have HO118 := n0_; have BK101 := n1_; have BK102 := n2_; have HB := n3_; have BK122 := n4_; have GW122 := n5_; have GE122 := n6_; have NB101_122 := n7_; have NB122_101 := n8_; have NB102_122 := n9_; have NB122_102 := n10_; clear n0_ n1_ n2_ n3_ n4_ n5_ n6_ n7_ n8_ n9_ n10_; clear hb hbox hg; have hnb64 := NB122_101.out; have hnc64 := NB101_122.out; have hnb65 := NB122_102.out; have hnc65 := NB102_122.out; have hcz66_0 : w63.cell? ⟨gb122, 0, none⟩ = some (.string (⟨#[]⟩ : ByteArray)) := (blk_cell BK122.out 0).trans rfl; have hcz66_1 : w63.cell? ⟨gb122, 1, none⟩ = some (.slice none 0 0) := (blk_cell BK122.out 1).trans rfl; have hcz66_2 : w63.cell? ⟨gb122, 2, none⟩ = some (.string (⟨#[]⟩ : ByteArray)) := (blk_cell BK122.out 2).trans rfl; have hcz66_3 : w63.cell? ⟨gb122, 3, none⟩ = some (.string (⟨#[]⟩ : ByteArray)) := (blk_cell BK122.out 3).trans rfl; have hfz66_0 := blk_frozen BK122.out 0; have hfz66_1 := blk_frozen BK122.out 1; have hfz66_2 := blk_frozen BK122.out 2; have hfz66_3 := blk_frozen BK122.out 3; obtain ⟨Ao67, co67, eo67⟩ := Kd.R_slice HO118.out; subst eo67; have hnb68 := NB101_102.out; have hnc68 := NB102_101.out; have hcz69_0 : w63.cell? ⟨gb101, 0, none⟩ = some (.string a1_0) := (blk_cell BK101.out 0).trans rfl; have hcz69_1 : w63.cell? ⟨gb101, 1, none⟩ = some (.slice A1_1 l1_1.length c1_1) := (blk_cell BK101.out 1).trans rfl; have hcz69_2 : w63.cell? ⟨gb101, 2, none⟩ = some (.string a1_2) := (blk_cell BK101.out 2).trans rfl; have hcz69_3 : w63.cell? ⟨gb101, 3, none⟩ = some (.string a1_3) := (blk_cell BK101.out 3).trans rfl; have hfz69_0 := blk_frozen BK101.out 0; have hfz69_1 := blk_frozen BK101.out 1; have hfz69_2 := blk_frozen BK101.out 2; have hfz69_3 := blk_frozen BK101.out 3) | (go_at_call 33; (with_reducible refine (PObBase.r04_SameChange.calls kj30 t115 _ _ t116 t119 t120 a1_0 _ _ l1_1 a1_2 a1_3 false _ ?side1 ?side2 ?side3 ?side4 A51.out).mono ?_); (case side1 => refine (Kd.R_reads' (e := 9) (base := w.heap.size) (ok := fun k_ => True) (n := t116.length) (c := co67) ?_).2.2; exact (by (with_reducible repeat (first | apply Kd.R_alloc | apply Kd.R_drewN | apply Kd.R_drew)); exact (Kd.R_mono (Kd.R_far (p := ⟨gb122, 3, none⟩) (Kd.R_far (p := ⟨gb122, 2, none⟩) (Kd.R_far (p := ⟨gb122, 1, none⟩) (Kd.R_far (p := ⟨gb122, 0, none⟩) (Kd.R_types HO118.out BK122.out (by decide)) (fun _ hk => hk.2) (.string t115)) (fun _ hk => hk.2) (.slice Ao67 t116.length co67)) (fun _ hk => hk.2) (.string t119)) (fun _ hk => hk.2) (.string t120)) (fun _ h_ => h_.1)))); (case side2 => exact (Kd.R_reads' HO118.out).2.1); (case side3 => exact Kd.C_below HR1_1.out (by repeat (first | (with_reducible first | exact HB.out | apply below_alloc | apply pw_below_drewN | apply below_drew1 | refine below_set ?_ GE101.out | refine below_set ?_ GE102.out | refine below_set ?_ GE122.out) | exact HB.out))); (case side4 => exact HC1_1.out); rintro e w70 ⟨rfl, hb⟩; have n0_ := Aside0.mk (Kd.R_below (by (with_reducible repeat (first | apply Kd.R_alloc | apply Kd.R_drewN | apply Kd.R_drew)); exact (Kd.R_mono (Kd.R_far (p := ⟨gb122, 3, none⟩) (Kd.R_far (p := ⟨gb122, 2, none⟩) (Kd.R_far (p := ⟨gb122, 1, none⟩) (Kd.R_far (p := ⟨gb122, 0, none⟩) (Kd.R_types HO118.out BK122.out (by decide)) (fun _ hk => hk.2) (.string t115)) (fun _ hk => hk.2) (.slice Ao67 t116.length co67)) (fun _ hk => hk.2) (.string t119)) (fun _ hk => hk.2) (.string t120)) (fun _ h_ => h_.1))) hb); have n1_ := Aside0.mk (blk_below (g := gb101) (o := .cells #[.string a1_0, .slice A1_1 l1_1.length c1_1, .string a1_2, .string a1_3] 40 (0, 0)) (by (with_reducible repeat (first | refine blk_drewN ?_ _ | refine blk_drew ?_ | refine blk_alloc ?_ _)); refine blk_far ?_ NB101_122.out _; (with_reducible repeat (first | refine blk_drewN ?_ _ | refine blk_drew ?_ | refine blk_alloc ?_ _)); refine blk_far ?_ NB101_122.out _; (with_reducible repeat (first | refine blk_drewN ?_ _ | refine blk_drew ?_ | refine blk_alloc ?_ _)); refine blk_far ?_ NB101_122.out _; (with_reducible repeat (first | refine blk_drewN ?_ _ | refine blk_drew ?_ | refine blk_alloc ?_ _)); refine blk_far ?_ NB101_122.out _; (with_reducible repeat (first | refine blk_drewN ?_ _ | refine blk_drew ?_ | refine blk_alloc ?_ _)); exact BK101.out) hb); have n2_ := Aside0.mk (blk_below (g := gb102) (o := .cells #[.string a2_0, .int .i64 a2_1, .string a2_2, .string a2_3] 42 (0, 0)) (by (with_reducible repeat (first | refine blk_drewN ?_ _ | refine blk_drew ?_ | refine blk_alloc ?_ _)); refine blk_far ?_ NB102_122.out _; (with_reducible repeat (first | refine blk_drewN ?_ _ | refine blk_drew ?_ | refine blk_alloc ?_ _)); refine blk_far ?_ NB102_122.out _; (with_reducible repeat (first | refine blk_drewN ?_ _ | refine blk_drew ?_ | refine blk_alloc ?_ _)); refine blk_far ?_ NB102_122.out _; (with_reducible repeat (first | refine blk_drewN ?_ _ | refine blk_drew ?_ | refine blk_alloc ?_ _)); refine blk_far ?_ NB102_122.out _; (with_reducible repeat (first | refine blk_drewN ?_ _ | refine blk_drew ?_ | refine blk_alloc ?_ _)); exact BK102.out) hb); have n3_ := Aside0.mk (blk_below (g := gb122) (o := .cells #[.string t115, .slice Ao67 t116.length co67, .string t119, .string t120] 40 (0, 0)) (by (with_reducible repeat (first | refine blk_drewN ?_ _ | refine blk_drew ?_ | refine blk_alloc ?_ _)); refine blk_put (cs := #[.string t115, .slice Ao67 t116.length co67, .string t119, .string (⟨#[]⟩ : ByteArray)]) ?_ 3 _ rfl; (with_reducible repeat (first | refine blk_drewN ?_ _ | refine blk_drew ?_ | refine blk_alloc ?_ _)); refine blk_put (cs := #[.string t115, .slice Ao67 t116.length co67, .string (⟨#[]⟩ : ByteArray), .string (⟨#[]⟩ : ByteArray)]) ?_ 2 _ rfl; (with_reducible repeat (first | refine blk_drewN ?_ _ | refine blk_drew ?_ | refine blk_alloc ?_ _)); refine blk_put (cs := #[.string t115, .slice none 0 0, .string (⟨#[]⟩ : ByteArray), .string (⟨#[]⟩ : ByteArray)]) ?_ 1 _ rfl; (with_reducible repeat (first | refine blk_drewN ?_ _ | refine blk_drew ?_ | refine blk_alloc ?_ _)); refine blk_put (cs := #[.string (⟨#[]⟩ : ByteArray), .slice none 0 0, .string (⟨#[]⟩ : ByteArray), .string (⟨#[]⟩ : ByteArray)]) ?_ 0 _ rfl; (with_reducible repeat (first | refine blk_drewN ?_ _ | refine blk_drew ?_ | refine blk_alloc ?_ _)); exact BK122.out) hb); have n4_ := Aside0.mk (below_step (by repeat (first | (with_reducible first | exact HB.out | apply below_alloc | apply pw_below_drewN | apply below_drew1 | refine below_set ?_ GE101.out | refine below_set ?_ GE102.out | refine below_set ?_ GE122.out) | exact HB.out)) hb); clear HO118; clear BK101; clear BK102; clear BK122; clear HB; have HO118 := n0_; have BK101 := n1_; have BK102 := n2_; have BK122 := n3_; have HB := n4_; clear n0_ n1_ n2_ n3_ n4_; (try clear hb); (try clear hb2); (try clear hk); (try clear hi)))
          go_ret
          exact ⟨by first | rfl | (simp [errW_none, errW_some] <;> rfl) | (simp [*, errW_none, errW_some] <;> rfl), by repeat (first | (with_reducible first | exact HB.out | apply below_alloc | apply pw_below_drewN | apply below_drew1 | refine below_set ?_ GE101.out | refine below_set ?_ GE102.out | refine below_set ?_ GE122.out) | exact HB.out)⟩
        ·
         replace c50 := Bool.eq_false_iff.mpr c50
         subst c50
         have H1 : (some false) = some r := by rw [if_neg (show ¬ (false = true) by decide)] at H; exact H
         clear H
         have H := H1
         clear H1
         obtain rfl := Option.some.inj H
         go_wp2_with (first | ((with_reducible refine gate_callee (f := 29) rfl ?_); refine goesL_ (some 88) rfl rfl Tryz.func29 (by kernel_rfl) rfl #[.string t113] rfl (by (try simp only [List.map_toArray, List.map_cons, List.map_nil]); first | done | rfl | (simp only [List.length_drop, List.length_take]; rfl)) ?_; (with_reducible refine (Ob.Gv.getChange.calls t113 t115 t116 t119 t120 false _ A49.out).mono ?_); rintro e w71 ⟨v117, rfl, ho0, hb⟩; refine ⟨_, rfl, ?_⟩; have n0_ := Aside0.mk (Kd.R_lower ho0 (below_size (by repeat (first | (with_reducible first | exact HB.out | apply below_alloc | apply pw_below_drewN | apply below_drew1 | refine below_set ?_ GE101.out | refine below_set ?_ GE102.out) | exact HB.out)))); have n1_ := Aside0.mk (blk_below (g := gb101) (o := .cells #[.string a1_0, .slice A1_1 l1_1.length c1_1, .string a1_2, .string a1_3] 40 (0, 0)) (by (with_reducible repeat (first | refine blk_drewN ?_ _ | refine blk_drew ?_ | refine blk_alloc ?_ _)); exact BK101.out) hb); have n2_ := Aside0.mk (blk_below (g := gb102) (o := .cells #[.string a2_0, .int .i64 a2_1, .string a2_2, .string a2_3] 42 (0, 0)) (by (with_reducible repeat (first | refine blk_drewN ?_ _ | refine blk_drew ?_ | refine blk_alloc ?_ _)); exact BK102.out) hb); have n3_ := Aside0.mk (below_step (by repeat (first | (with_reducible first | exact HB.out | apply below_alloc | apply pw_below_drewN | apply below_drew1 | refine below_set ?_ GE101.out | refine below_set ?_ GE102.out) | exact HB.out)) hb); clear BK101; clear BK102; clear HB; have HO118 := n0_; have BK101 := n1_; have BK102 := n2_; have HB := n3_; clear n0_ n1_ n2_ n3_; (try clear hb); (try clear hb2); (try clear hk); (try clear hi); (try clear ho0)) | ((with_reducible refine gate_dst (N := 16) rfl ?_); (try (refine gate_guard (by rfl) ?_; dsimp only)); refine box_event ?hg (N := 16) ?hd (cs := #[.string (⟨#[]⟩ : ByteArray), .slice none 0 0, .string (⟨#[]⟩ : ByteArray), .string (⟨#[]⟩ : ByteArray)]) (t := 40) ?hr ?_; (case hd => rfl); (case hg => rfl); (case hr => first | (go_simp; done) | (go_simp; rfl)); intro gb122 hg w72 hbox hb; have n0_ := Aside0.mk (Kd.R_below (by (with_reducible repeat (first | apply Kd.R_alloc | apply Kd.R_drewN | apply Kd.R_drew)); exact HO118.out) hb); have n1_ := Aside0.mk (blk_below (g := gb101) (o := .cells #[.string a1_0, .slice A1_1 l1_1.length c1_1, .string a1_2, .string a1_3] 40 (0, 0)) (by (with_reducible repeat (first | refine blk_drewN ?_ _ | refine blk_drew ?_ | refine blk_alloc ?_ _)); exact BK101.out) hb); have n2_ := Aside0.mk (blk_below (g := gb102) (o := .cells #[.string a2_0, .int .i64 a2_1, .string a2_2, .string a2_3] 42 (0, 0)) (by (with_reducible repeat (first | refine blk_drewN ?_ _ | refine blk_drew ?_ | refine blk_alloc ?_ _)); exact BK102.out) hb); have n3_ := Aside0.mk (below_step (by repeat (first | (with_reducible first | exact HB.out | apply below_alloc | apply pw_below_drewN | apply below_drew1 | refine below_set ?_ GE101.out | refine below_set ?_ GE102.out) | exact HB.out)) hb); have n4_ := Aside0.mk (hbox); have n5_ := Aside0.mk ((by rw [hg]; exact (below_size (by repeat (first | (with_reducible first | exact HB.out | apply below_alloc | apply pw_below_drewN | apply below_drew1 | refine below_set ?_ GE101.out | refine below_set ?_ GE102.out) | exact HB.out))) : w.heap.size ≤ gb122)); have n6_ := Aside0.mk ((by rw [hg]; exact (below_size (by repeat (first | (with_reducible first | exact HB.out | apply below_alloc | apply pw_below_drewN | apply below_drew1 | refine below_set ?_ GE101.out | refine below_set ?_ GE102.out) | exact HB.out))) : w.heap.size ≤ gb122)); have n7_ := Aside0.mk ((by rw [hg]; exact Nat.ne_of_lt (blk_lt (g := gb101) (o := .cells #[.string a1_0, .slice A1_1 l1_1.length c1_1, .string a1_2, .string a1_3] 40 (0, 0)) (by (with_reducible repeat (first | refine blk_drewN ?_ _ | refine blk_drew ?_ | refine blk_alloc ?_ _)); exact BK101.out)) : gb101 ≠ gb122)); have n8_ := Aside0.mk ((by rw [hg]; exact Nat.ne_of_gt (blk_lt (g := gb101) (o := .cells #[.string a1_0, .slice A1_1 l1_1.length c1_1, .string a1_2, .string a1_3] 40 (0, 0)) (by (with_reducible repeat (first | refine blk_drewN ?_ _ | refine blk_drew ?_ | refine blk_alloc ?_ _)); exact BK101.out)) : gb122 ≠ gb101)); have n9_ := Aside0.mk ((by rw [hg]; exact Nat.ne_of_lt (blk_lt (g := gb102) (o := .cells #[.string a2_0, .int .i64 a2_1, .string a2_2, .string a2_3] 42 (0, 0)) (by (with_reducible repeat (first | refine blk_drewN ?_ _ | refine blk_drew ?_ | refine blk_alloc ?_ _)); exact BK102.out)) : gb102 ≠ gb122)); have n10_ := Aside0.mk ((by rw [hg]; exact Nat.ne_of_gt (blk_lt (g := gb102) (o := .cells #[.string a2_0, .int .i64 a2_1, .string a2_2, .string a2_3] 42 (0, 0)) (by (with_reducible repeat (first | refine blk_drewN ?_ _ | refine blk_drew ?_ | refine blk_alloc ?_ _)); exact BK102.out)) : gb122 ≠ gb102)); clear HO118; clear BK101; clear BK102; clear HB; have HO118 := n0_; have BK101 := n1_; have BK102 := n2_; have HB := n3_; have BK122 := n4_; have GW122 := n5_; have GE122 := n6_; have NB101_122 := n7_; have NB122_101 := n8_; have NB102_122 := n9_; have NB122_102 := n10_; clear n0_ n1_ n2_ n3_ n4_ n5_ n6_ n7_ n8_ n9_ n10_; clear hb hbox hg; have hnb73 := NB122_101.out; have hnc73 := NB101_122.out; have hnb74 := NB122_102.out; have hnc74 := NB102_122.out; have hcz75_0 : w72.cell? ⟨gb122, 0, none⟩ = some (.string (⟨#[]⟩ : ByteArray)) := (blk_cell BK122.out 0).trans rfl; have hcz75_1 : w72.cell? ⟨gb122, 1, none⟩ = some (.slice none 0 0) := (blk_cell BK122.out 1).trans rfl; have hcz75_2 : w72.cell? ⟨gb122, 2, none⟩ = some (.string (⟨#[]⟩ : ByteArray)) := (blk_cell BK122.out 2).trans rfl; have hcz75_3 : w72.cell? ⟨gb122, 3, none⟩ = some (.string (⟨#[]⟩ : ByteArray)) := (blk_cell BK122.out 3).trans rfl; have hfz75_0 := blk_frozen BK122.out 0; have hfz75_1 := blk_frozen BK122.out 1; have hfz75_2 := blk_frozen BK122.out 2; have hfz75_3 := blk_frozen BK122.out 3; obtain ⟨Ao76, co76, eo76⟩ := Kd.R_slice HO118.out; subst eo76))
         go_ret
         exact ⟨by first | rfl | (simp [errW_none, errW_some] <;> rfl) | (simp [*, errW_none, errW_some] <;> rfl), by repeat (first | (with_reducible first | exact HB.out | apply below_alloc | apply pw_below_drewN | apply below_drew1 | refine below_set ?_ GE101.out | refine below_set ?_ GE102.out | refine below_set ?_ GE122.out) | exact HB.out)⟩
       ·
        replace c48 := Bool.eq_false_iff.mpr c48
        subst c48
        have H1 : (w04_ObjectBack.j2 kj30 a3 t103 a2_0 a2_1 a2_2 a2_3) = some r := by rw [if_neg (show ¬ (false = true) by decide)] at H; exact H
        clear H
        have H := H1
        clear H1
        have H' := Aside0.mk H
        clear H
        go_wp2
        go_meet
        case rel => exact ⟨_, H', ⟨by have := HJ5.out; have := HJ30.out; first | omega | exact Nat.le_refl _⟩, ⟨by (with_reducible repeat (first | refine blk_drewN ?_ _ | refine blk_drew ?_ | refine blk_alloc ?_ _)); exact BK101.out⟩, ⟨by (with_reducible repeat (first | refine blk_drewN ?_ _ | refine blk_drew ?_ | refine blk_alloc ?_ _)); exact BK102.out⟩, ⟨by repeat (first | (with_reducible first | exact HB.out | apply below_alloc | apply pw_below_drewN | apply below_drew1 | refine below_set ?_ GE101.out | refine below_set ?_ GE102.out) | exact HB.out)⟩⟩
      case rest =>
       clear HC44
       try clear c1
       try clear c2
       try clear p2
       try clear c3
       try clear c4
       try clear c5
       try clear c6
       try clear p6
       try clear c7
       try clear c10
       try clear c11
       try clear c14
       try clear c16
       try clear c18
       try clear c19
       try clear c19b0
       try clear c19b1
       try clear c21
       try clear c25
       try clear c29
       try clear c33
       try clear c35
       try clear c37
       try clear c45
       try clear c48
       try clear c50
       try clear c52
       try clear c55
       try clear c56
       try clear c59
       try clear c64
       try clear p64
       try clear c65
       try clear c68
       try clear c73
       try clear c74
       try clear hcz17_0
       try clear hcz17_1
       try clear hcz17_2
       try clear hcz17_3
       try clear hcz22_0
       try clear hcz22_1
       try clear hcz22_2
       try clear hcz22_3
       try clear hcz26_0
       try clear hcz26_1
       try clear hcz26_2
       try clear hcz26_3
       try clear hcz28_0
       try clear hcz28_1
       try clear hcz28_2
       try clear hcz28_3
       try clear hcz46_0
       try clear hcz46_1
       try clear hcz46_2
       try clear hcz46_3
       try clear hcz57_0
       try clear hcz57_1
       try clear hcz57_2
       try clear hcz57_3
       try clear hcz60_0
       try clear hcz60_1
       try clear hcz60_2
       try clear hcz60_3
       try clear hcz66_0
       try clear hcz66_1
       try clear hcz66_2
       try clear hcz66_3
       try clear hcz69_0
       try clear hcz69_1
       try clear hcz69_2
       try clear hcz69_3
       try clear hcz75_0
       try clear hcz75_1
       try clear hcz75_2
       try clear hcz75_3
       try clear hfz17_0
       try clear hfz17_1
       try clear hfz17_2
       try clear hfz17_3
       try clear hfz22_0
       try clear hfz22_1
       try clear hfz22_2
       try clear hfz22_3
       try clear hfz26_0
       try clear hfz26_1
       try clear hfz26_2
       try clear hfz26_3
       try clear hfz28_0
       try clear hfz28_1
       try clear hfz28_2
       try clear hfz28_3
       try clear hfz46_0
       try clear hfz46_1
       try clear hfz46_2
       try clear hfz46_3
       try clear hfz57_0
       try clear hfz57_1
       try clear hfz57_2
       try clear hfz57_3
       try clear hfz60_0
       try clear hfz60_1
       try clear hfz60_2
       try clear hfz60_3
       try clear hfz66_0
       try clear hfz66_1
       try clear hfz66_2
       try clear hfz66_3
       try clear hfz69_0
       try clear hfz69_1
       try clear hfz69_2
       try clear hfz69_3
       try clear hfz75_0
       try clear hfz75_1
       try clear hfz75_2
       try clear hfz75_3
       try clear p2
       try clear p6
       obtain ⟨kq, HA, HJ43, BK101, BK102, HB⟩ := hcut
       cases kq with
       | zero => exact absurd HA.out (by simp [w04_ObjectBack.j2])
       | succ kj43 =>
        have H := HA.out
        clear HA
        simp only [w04_ObjectBack.j2] at H
        replace H := Option.bind_eq_some_iff.mp H
        obtain ⟨⟨t124, t125⟩, A770, H⟩ := H
        replace H : (if t125 = true then ((Ob.Gv.getLabel.f t124).bind fun bt126 => (if bt126.2.2.2.2 = true then (if (!(bt126.1.toList == a2_0.toList) || (!(bt126.2.1 == a2_1) || (!(bt126.2.2.1.toList == a2_2.toList) || (!(bt126.2.2.2.1.toList == a2_3.toList))))) = true then (some false) else (w04_ObjectBack.j3 kj43 a3 t103)) else (some false))) else (w04_ObjectBack.j3 kj43 a3 t103)) = some r := H
        have A77 := Aside0.mk A770
        clear A770
        have HC78 := Aside0.mk H
        clear H
        have hnb79 := NB102_101.out
        have hnc79 := NB101_102.out
        have hcz80_0 : wc.cell? ⟨gb102, 0, none⟩ = some (.string a2_0) := (blk_cell BK102.out 0).trans rfl
        have hcz80_1 : wc.cell? ⟨gb102, 1, none⟩ = some (.int .i64 a2_1) := (blk_cell BK102.out 1).trans rfl
        have hcz80_2 : wc.cell? ⟨gb102, 2, none⟩ = some (.string a2_2) := (blk_cell BK102.out 2).trans rfl
        have hcz80_3 : wc.cell? ⟨gb102, 3, none⟩ = some (.string a2_3) := (blk_cell BK102.out 3).trans rfl
        have hfz80_0 := blk_frozen BK102.out 0
        have hfz80_1 := blk_frozen BK102.out 1
        have hfz80_2 := blk_frozen BK102.out 2
        have hfz80_3 := blk_frozen BK102.out 3
        go_upto_if 104 with (first | ((with_reducible refine gate_callee (f := 27) rfl ?_); refine goesL_ (some 101) rfl rfl Tryz.func27 (by kernel_rfl) rfl #[.agg #[.string a2_0, .int .i64 a2_1, .string a2_2, .string a2_3]] rfl (by (try simp only [List.map_toArray, List.map_cons, List.map_nil]); first | done | rfl | (simp only [List.length_drop, List.length_take]; rfl)) ?_; (with_reducible refine (Ob.Gv.putLabel.calls a2_0 a2_1 a2_2 a2_3 t124 t125 _ A77.out).mono ?_); rintro e w81 ⟨rfl, hb⟩; refine ⟨_, rfl, ?_⟩; have n0_ := Aside0.mk (blk_below (g := gb101) (o := .cells #[.string a1_0, .slice A1_1 l1_1.length c1_1, .string a1_2, .string a1_3] 40 (0, 0)) (by (with_reducible repeat (first | refine blk_drewN ?_ _ | refine blk_drew ?_ | refine blk_alloc ?_ _)); exact BK101.out) hb); have n1_ := Aside0.mk (blk_below (g := gb102) (o := .cells #[.string a2_0, .int .i64 a2_1, .string a2_2, .string a2_3] 42 (0, 0)) (by (with_reducible repeat (first | refine blk_drewN ?_ _ | refine blk_drew ?_ | refine blk_alloc ?_ _)); exact BK102.out) hb); have n2_ := Aside0.mk (below_step (by repeat (first | (with_reducible first | exact HB.out | apply below_alloc | apply pw_below_drewN | apply below_drew1 | refine below_set ?_ GE101.out | refine below_set ?_ GE102.out) | exact HB.out)) hb); clear BK101; clear BK102; clear HB; have BK101 := n0_; have BK102 := n1_; have HB := n2_; clear n0_ n1_ n2_; (try clear hb); (try clear hb2); (try clear hk); (try clear hi)))
        (try simp only [Act.put, List.setIfInBounds_toArray, List.set_cons_zero, List.set_cons_succ])
        go_cut [] (fun wc => ∃ (kq : Nat), Aside0 (w04_ObjectBack.j3 kq a3 t103 = some r) ∧ Aside0 (kq ≤ kj43) ∧ Aside0 (wc.heap[gb101]? = some (.cells #[.string a1_0, (.slice A1_1 l1_1.length c1_1), .string a1_2, .string a1_3] 40 (0, 0))) ∧ Aside0 (wc.heap[gb102]? = some (.cells #[.string a2_0, .int .i64 a2_1, .string a2_2, .string a2_3] 42 (0, 0))) ∧ Aside0 (Below w.heap.size w wc))
        case first =>
         have H := HC78.out
         clear HC78
         by_cases c82 : t125 = true
         ·
          subst c82
          have H1 : ((Ob.Gv.getLabel.f t124).bind fun bt126 => (if bt126.2.2.2.2 = true then (if (!(bt126.1.toList == a2_0.toList) || (!(bt126.2.1 == a2_1) || (!(bt126.2.2.1.toList == a2_2.toList) || (!(bt126.2.2.2.1.toList == a2_3.toList))))) = true then (some false) else (w04_ObjectBack.j3 kj43 a3 t103)) else (some false))) = some r := by rw [if_pos rfl] at H; exact H
          clear H
          have H := H1
          clear H1
          replace H := Option.bind_eq_some_iff.mp H
          obtain ⟨⟨t126, t127, t128, t129, t130⟩, A830, H⟩ := H
          replace H : (if t130 = true then (if (!(t126.toList == a2_0.toList) || (!(t127 == a2_1) || (!(t128.toList == a2_2.toList) || (!(t129.toList == a2_3.toList))))) = true then (some false) else (w04_ObjectBack.j3 kj43 a3 t103)) else (some false)) = some r := H
          have A83 := Aside0.mk A830
          clear A830
          by_cases c84 : t130 = true
          ·
           subst c84
           have H1 : (if (!(t126.toList == a2_0.toList) || (!(t127 == a2_1) || (!(t128.toList == a2_2.toList) || (!(t129.toList == a2_3.toList))))) = true then (some false) else (w04_ObjectBack.j3 kj43 a3 t103)) = some r := by rw [if_pos rfl] at H; exact H
           clear H
           have H := H1
           clear H1
           by_cases c85 : (!(t126.toList == a2_0.toList) || (!(t127 == a2_1) || (!(t128.toList == a2_2.toList) || (!(t129.toList == a2_3.toList))))) = true
           ·
            rw [if_pos c85] at H
            have c85b0 : (!(t126.toList == a2_0.toList) || (!(t127 == a2_1) || (!(t128.toList == a2_2.toList) || (!(t129.toList == a2_3.toList))))) = true := c85
            clear c85
            (first | rw [c85b0] | (simp only [i64_w, i32_w]; rw [c85b0]) | skip)
            obtain rfl := Option.some.inj H
            go_wp2_with (first | ((with_reducible refine gate_callee (f := 31) rfl ?_); refine goesL_ (some 107) rfl rfl Tryz.func31 (by kernel_rfl) rfl #[.string t124] rfl (by (try simp only [List.map_toArray, List.map_cons, List.map_nil]); first | done | rfl | (simp only [List.length_drop, List.length_take]; rfl)) ?_; (with_reducible refine (Ob.Gv.getLabel.calls t124 t126 t127 t128 t129 true _ A83.out).mono ?_); rintro e w86 ⟨rfl, hb⟩; refine ⟨_, rfl, ?_⟩; have n0_ := Aside0.mk (blk_below (g := gb101) (o := .cells #[.string a1_0, .slice A1_1 l1_1.length c1_1, .string a1_2, .string a1_3] 40 (0, 0)) (by (with_reducible repeat (first | refine blk_drewN ?_ _ | refine blk_drew ?_ | refine blk_alloc ?_ _)); exact BK101.out) hb); have n1_ := Aside0.mk (blk_below (g := gb102) (o := .cells #[.string a2_0, .int .i64 a2_1, .string a2_2, .string a2_3] 42 (0, 0)) (by (with_reducible repeat (first | refine blk_drewN ?_ _ | refine blk_drew ?_ | refine blk_alloc ?_ _)); exact BK102.out) hb); have n2_ := Aside0.mk (below_step (by repeat (first | (with_reducible first | exact HB.out | apply below_alloc | apply pw_below_drewN | apply below_drew1 | refine below_set ?_ GE101.out | refine below_set ?_ GE102.out) | exact HB.out)) hb); clear BK101; clear BK102; clear HB; have BK101 := n0_; have BK102 := n1_; have HB := n2_; clear n0_ n1_ n2_; (try clear hb); (try clear hb2); (try clear hk); (try clear hi)) | ((with_reducible refine gate_dst (N := 20) rfl ?_); (try (refine gate_guard (by rfl) ?_; dsimp only)); refine box_event ?hg (N := 20) ?hd (cs := #[.string (⟨#[]⟩ : ByteArray), .int .i64 0, .string (⟨#[]⟩ : ByteArray), .string (⟨#[]⟩ : ByteArray)]) (t := 42) ?hr ?_; (case hd => rfl); (case hg => rfl); (case hr => first | (go_simp; done) | (go_simp; rfl)); intro gb131 hg w87 hbox hb; have n0_ := Aside0.mk (blk_below (g := gb101) (o := .cells #[.string a1_0, .slice A1_1 l1_1.length c1_1, .string a1_2, .string a1_3] 40 (0, 0)) (by (with_reducible repeat (first | refine blk_drewN ?_ _ | refine blk_drew ?_ | refine blk_alloc ?_ _)); exact BK101.out) hb); have n1_ := Aside0.mk (blk_below (g := gb102) (o := .cells #[.string a2_0, .int .i64 a2_1, .string a2_2, .string a2_3] 42 (0, 0)) (by (with_reducible repeat (first | refine blk_drewN ?_ _ | refine blk_drew ?_ | refine blk_alloc ?_ _)); exact BK102.out) hb); have n2_ := Aside0.mk (below_step (by repeat (first | (with_reducible first | exact HB.out | apply below_alloc | apply pw_below_drewN | apply below_drew1 | refine below_set ?_ GE101.out | refine below_set ?_ GE102.out) | exact HB.out)) hb); have n3_ := Aside0.mk (hbox); have n4_ := Aside0.mk ((by rw [hg]; exact (below_size (by repeat (first | (with_reducible first | exact HB.out | apply below_alloc | apply pw_below_drewN | apply below_drew1 | refine below_set ?_ GE101.out | refine below_set ?_ GE102.out) | exact HB.out))) : w.heap.size ≤ gb131)); have n5_ := Aside0.mk ((by rw [hg]; exact (below_size (by repeat (first | (with_reducible first | exact HB.out | apply below_alloc | apply pw_below_drewN | apply below_drew1 | refine below_set ?_ GE101.out | refine below_set ?_ GE102.out) | exact HB.out))) : w.heap.size ≤ gb131)); have n6_ := Aside0.mk ((by rw [hg]; exact Nat.ne_of_lt (blk_lt (g := gb101) (o := .cells #[.string a1_0, .slice A1_1 l1_1.length c1_1, .string a1_2, .string a1_3] 40 (0, 0)) (by (with_reducible repeat (first | refine blk_drewN ?_ _ | refine blk_drew ?_ | refine blk_alloc ?_ _)); exact BK101.out)) : gb101 ≠ gb131)); have n7_ := Aside0.mk ((by rw [hg]; exact Nat.ne_of_gt (blk_lt (g := gb101) (o := .cells #[.string a1_0, .slice A1_1 l1_1.length c1_1, .string a1_2, .string a1_3] 40 (0, 0)) (by (with_reducible repeat (first | refine blk_drewN ?_ _ | refine blk_drew ?_ | refine blk_alloc ?_ _)); exact BK101.out)) : gb131 ≠ gb101)); have n8_ := Aside0.mk ((by rw [hg]; exact Nat.ne_of_lt (blk_lt (g := gb102) (o := .cells #[.string a2_0, .int .i64 a2_1, .string a2_2, .string a2_3] 42 (0, 0)) (by (with_reducible repeat (first | refine blk_drewN ?_ _ | refine blk_drew ?_ | refine blk_alloc ?_ _)); exact BK102.out)) : gb102 ≠ gb131)); have n9_ := Aside0.mk ((by rw [hg]; exact Nat.ne_of_gt (blk_lt (g := gb102) (o := .cells #[.string a2_0, .int .i64 a2_1, .string a2_2, .string a2_3] 42 (0, 0)) (by (with_reducible repeat (first | refine blk_drewN ?_ _ | refine blk_drew ?_ | refine blk_alloc ?_ _)); exact BK102.out)) : gb131 ≠ gb102)); clear BK101; clear BK102; clear HB; have BK101 := n0_; have BK102 := n1_; have HB := n2_; have BK131 := n3_; have GW131 := n4_; have GE131 := n5_; have NB101_131 := n6_; have NB131_101 := n7_; have NB102_131 := n8_; have NB131_102 := n9_; clear n0_ n1_ n2_ n3_ n4_ n5_ n6_ n7_ n8_ n9_; clear hb hbox hg; have hnb88 := NB131_101.out; have hnc88 := NB101_131.out; have hnb89 := NB131_102.out; have hnc89 := NB102_131.out; have hcz90_0 : w87.cell? ⟨gb131, 0, none⟩ = some (.string (⟨#[]⟩ : ByteArray)) := (blk_cell BK131.out 0).trans rfl; have hcz90_1 : w87.cell? ⟨gb131, 1, none⟩ = some (.int .i64 0) := (blk_cell BK131.out 1).trans rfl; have hcz90_2 : w87.cell? ⟨gb131, 2, none⟩ = some (.string (⟨#[]⟩ : ByteArray)) := (blk_cell BK131.out 2).trans rfl; have hcz90_3 : w87.cell? ⟨gb131, 3, none⟩ = some (.string (⟨#[]⟩ : ByteArray)) := (blk_cell BK131.out 3).trans rfl; have hfz90_0 := blk_frozen BK131.out 0; have hfz90_1 := blk_frozen BK131.out 1; have hfz90_2 := blk_frozen BK131.out 2; have hfz90_3 := blk_frozen BK131.out 3; have hnb91 := NB102_101.out; have hnc91 := NB101_102.out; have hcz92_0 : w87.cell? ⟨gb102, 0, none⟩ = some (.string a2_0) := (blk_cell BK102.out 0).trans rfl; have hcz92_1 : w87.cell? ⟨gb102, 1, none⟩ = some (.int .i64 a2_1) := (blk_cell BK102.out 1).trans rfl; have hcz92_2 : w87.cell? ⟨gb102, 2, none⟩ = some (.string a2_2) := (blk_cell BK102.out 2).trans rfl; have hcz92_3 : w87.cell? ⟨gb102, 3, none⟩ = some (.string a2_3) := (blk_cell BK102.out 3).trans rfl; have hfz92_0 := blk_frozen BK102.out 0; have hfz92_1 := blk_frozen BK102.out 1; have hfz92_2 := blk_frozen BK102.out 2; have hfz92_3 := blk_frozen BK102.out 3))
            go_ret
            exact ⟨by first | rfl | (simp [errW_none, errW_some] <;> rfl) | (simp [*, errW_none, errW_some] <;> rfl), by repeat (first | (with_reducible first | exact HB.out | apply below_alloc | apply pw_below_drewN | apply below_drew1 | refine below_set ?_ GE101.out | refine below_set ?_ GE102.out | refine below_set ?_ GE131.out) | exact HB.out)⟩
           ·
            rw [if_neg c85] at H
            have c85b0 : (!(t126.toList == a2_0.toList) || (!(t127 == a2_1) || (!(t128.toList == a2_2.toList) || (!(t129.toList == a2_3.toList))))) = false := by simpa using c85
            clear c85
            (first | rw [c85b0] | (simp only [i64_w, i32_w]; rw [c85b0]) | skip)
            have H' := Aside0.mk H
            clear H
            go_wp2_with (first | ((with_reducible refine gate_callee (f := 31) rfl ?_); refine goesL_ (some 107) rfl rfl Tryz.func31 (by kernel_rfl) rfl #[.string t124] rfl (by (try simp only [List.map_toArray, List.map_cons, List.map_nil]); first | done | rfl | (simp only [List.length_drop, List.length_take]; rfl)) ?_; (with_reducible refine (Ob.Gv.getLabel.calls t124 t126 t127 t128 t129 true _ A83.out).mono ?_); rintro e w93 ⟨rfl, hb⟩; refine ⟨_, rfl, ?_⟩; have n0_ := Aside0.mk (blk_below (g := gb101) (o := .cells #[.string a1_0, .slice A1_1 l1_1.length c1_1, .string a1_2, .string a1_3] 40 (0, 0)) (by (with_reducible repeat (first | refine blk_drewN ?_ _ | refine blk_drew ?_ | refine blk_alloc ?_ _)); exact BK101.out) hb); have n1_ := Aside0.mk (blk_below (g := gb102) (o := .cells #[.string a2_0, .int .i64 a2_1, .string a2_2, .string a2_3] 42 (0, 0)) (by (with_reducible repeat (first | refine blk_drewN ?_ _ | refine blk_drew ?_ | refine blk_alloc ?_ _)); exact BK102.out) hb); have n2_ := Aside0.mk (below_step (by repeat (first | (with_reducible first | exact HB.out | apply below_alloc | apply pw_below_drewN | apply below_drew1 | refine below_set ?_ GE101.out | refine below_set ?_ GE102.out) | exact HB.out)) hb); clear BK101; clear BK102; clear HB; have BK101 := n0_; have BK102 := n1_; have HB := n2_; clear n0_ n1_ n2_; (try clear hb); (try clear hb2); (try clear hk); (try clear hi)) | ((with_reducible refine gate_dst (N := 20) rfl ?_); (try (refine gate_guard (by rfl) ?_; dsimp only)); refine box_event ?hg (N := 20) ?hd (cs := #[.string (⟨#[]⟩ : ByteArray), .int .i64 0, .string (⟨#[]⟩ : ByteArray), .string (⟨#[]⟩ : ByteArray)]) (t := 42) ?hr ?_; (case hd => rfl); (case hg => rfl); (case hr => first | (go_simp; done) | (go_simp; rfl)); intro gb131 hg w94 hbox hb; have n0_ := Aside0.mk (blk_below (g := gb101) (o := .cells #[.string a1_0, .slice A1_1 l1_1.length c1_1, .string a1_2, .string a1_3] 40 (0, 0)) (by (with_reducible repeat (first | refine blk_drewN ?_ _ | refine blk_drew ?_ | refine blk_alloc ?_ _)); exact BK101.out) hb); have n1_ := Aside0.mk (blk_below (g := gb102) (o := .cells #[.string a2_0, .int .i64 a2_1, .string a2_2, .string a2_3] 42 (0, 0)) (by (with_reducible repeat (first | refine blk_drewN ?_ _ | refine blk_drew ?_ | refine blk_alloc ?_ _)); exact BK102.out) hb); have n2_ := Aside0.mk (below_step (by repeat (first | (with_reducible first | exact HB.out | apply below_alloc | apply pw_below_drewN | apply below_drew1 | refine below_set ?_ GE101.out | refine below_set ?_ GE102.out) | exact HB.out)) hb); have n3_ := Aside0.mk (hbox); have n4_ := Aside0.mk ((by rw [hg]; exact (below_size (by repeat (first | (with_reducible first | exact HB.out | apply below_alloc | apply pw_below_drewN | apply below_drew1 | refine below_set ?_ GE101.out | refine below_set ?_ GE102.out) | exact HB.out))) : w.heap.size ≤ gb131)); have n5_ := Aside0.mk ((by rw [hg]; exact (below_size (by repeat (first | (with_reducible first | exact HB.out | apply below_alloc | apply pw_below_drewN | apply below_drew1 | refine below_set ?_ GE101.out | refine below_set ?_ GE102.out) | exact HB.out))) : w.heap.size ≤ gb131)); have n6_ := Aside0.mk ((by rw [hg]; exact Nat.ne_of_lt (blk_lt (g := gb101) (o := .cells #[.string a1_0, .slice A1_1 l1_1.length c1_1, .string a1_2, .string a1_3] 40 (0, 0)) (by (with_reducible repeat (first | refine blk_drewN ?_ _ | refine blk_drew ?_ | refine blk_alloc ?_ _)); exact BK101.out)) : gb101 ≠ gb131)); have n7_ := Aside0.mk ((by rw [hg]; exact Nat.ne_of_gt (blk_lt (g := gb101) (o := .cells #[.string a1_0, .slice A1_1 l1_1.length c1_1, .string a1_2, .string a1_3] 40 (0, 0)) (by (with_reducible repeat (first | refine blk_drewN ?_ _ | refine blk_drew ?_ | refine blk_alloc ?_ _)); exact BK101.out)) : gb131 ≠ gb101)); have n8_ := Aside0.mk ((by rw [hg]; exact Nat.ne_of_lt (blk_lt (g := gb102) (o := .cells #[.string a2_0, .int .i64 a2_1, .string a2_2, .string a2_3] 42 (0, 0)) (by (with_reducible repeat (first | refine blk_drewN ?_ _ | refine blk_drew ?_ | refine blk_alloc ?_ _)); exact BK102.out)) : gb102 ≠ gb131)); have n9_ := Aside0.mk ((by rw [hg]; exact Nat.ne_of_gt (blk_lt (g := gb102) (o := .cells #[.string a2_0, .int .i64 a2_1, .string a2_2, .string a2_3] 42 (0, 0)) (by (with_reducible repeat (first | refine blk_drewN ?_ _ | refine blk_drew ?_ | refine blk_alloc ?_ _)); exact BK102.out)) : gb131 ≠ gb102)); clear BK101; clear BK102; clear HB; have BK101 := n0_; have BK102 := n1_; have HB := n2_; have BK131 := n3_; have GW131 := n4_; have GE131 := n5_; have NB101_131 := n6_; have NB131_101 := n7_; have NB102_131 := n8_; have NB131_102 := n9_; clear n0_ n1_ n2_ n3_ n4_ n5_ n6_ n7_ n8_ n9_; clear hb hbox hg; have hnb95 := NB131_101.out; have hnc95 := NB101_131.out; have hnb96 := NB131_102.out; have hnc96 := NB102_131.out; have hcz97_0 : w94.cell? ⟨gb131, 0, none⟩ = some (.string (⟨#[]⟩ : ByteArray)) := (blk_cell BK131.out 0).trans rfl; have hcz97_1 : w94.cell? ⟨gb131, 1, none⟩ = some (.int .i64 0) := (blk_cell BK131.out 1).trans rfl; have hcz97_2 : w94.cell? ⟨gb131, 2, none⟩ = some (.string (⟨#[]⟩ : ByteArray)) := (blk_cell BK131.out 2).trans rfl; have hcz97_3 : w94.cell? ⟨gb131, 3, none⟩ = some (.string (⟨#[]⟩ : ByteArray)) := (blk_cell BK131.out 3).trans rfl; have hfz97_0 := blk_frozen BK131.out 0; have hfz97_1 := blk_frozen BK131.out 1; have hfz97_2 := blk_frozen BK131.out 2; have hfz97_3 := blk_frozen BK131.out 3; have hnb98 := NB102_101.out; have hnc98 := NB101_102.out; have hcz99_0 : w94.cell? ⟨gb102, 0, none⟩ = some (.string a2_0) := (blk_cell BK102.out 0).trans rfl; have hcz99_1 : w94.cell? ⟨gb102, 1, none⟩ = some (.int .i64 a2_1) := (blk_cell BK102.out 1).trans rfl; have hcz99_2 : w94.cell? ⟨gb102, 2, none⟩ = some (.string a2_2) := (blk_cell BK102.out 2).trans rfl; have hcz99_3 : w94.cell? ⟨gb102, 3, none⟩ = some (.string a2_3) := (blk_cell BK102.out 3).trans rfl; have hfz99_0 := blk_frozen BK102.out 0; have hfz99_1 := blk_frozen BK102.out 1; have hfz99_2 := blk_frozen BK102.out 2; have hfz99_3 := blk_frozen BK102.out 3))
            go_meet
            case rel => exact ⟨_, H', ⟨by have := HJ5.out; have := HJ30.out; have := HJ43.out; first | omega | exact Nat.le_refl _⟩, ⟨by (with_reducible repeat (first | refine blk_drewN ?_ _ | refine blk_drew ?_ | refine blk_alloc ?_ _)); refine blk_far ?_ NB101_131.out _; (with_reducible repeat (first | refine blk_drewN ?_ _ | refine blk_drew ?_ | refine blk_alloc ?_ _)); refine blk_far ?_ NB101_131.out _; (with_reducible repeat (first | refine blk_drewN ?_ _ | refine blk_drew ?_ | refine blk_alloc ?_ _)); refine blk_far ?_ NB101_131.out _; (with_reducible repeat (first | refine blk_drewN ?_ _ | refine blk_drew ?_ | refine blk_alloc ?_ _)); refine blk_far ?_ NB101_131.out _; (with_reducible repeat (first | refine blk_drewN ?_ _ | refine blk_drew ?_ | refine blk_alloc ?_ _)); exact BK101.out⟩, ⟨by (with_reducible repeat (first | refine blk_drewN ?_ _ | refine blk_drew ?_ | refine blk_alloc ?_ _)); refine blk_far ?_ NB102_131.out _; (with_reducible repeat (first | refine blk_drewN ?_ _ | refine blk_drew ?_ | refine blk_alloc ?_ _)); refine blk_far ?_ NB102_131.out _; (with_reducible repeat (first | refine blk_drewN ?_ _ | refine blk_drew ?_ | refine blk_alloc ?_ _)); refine blk_far ?_ NB102_131.out _; (with_reducible repeat (first | refine blk_drewN ?_ _ | refine blk_drew ?_ | refine blk_alloc ?_ _)); refine blk_far ?_ NB102_131.out _; (with_reducible repeat (first | refine blk_drewN ?_ _ | refine blk_drew ?_ | refine blk_alloc ?_ _)); exact BK102.out⟩, ⟨by repeat (first | (with_reducible first | exact HB.out | apply below_alloc | apply pw_below_drewN | apply below_drew1 | refine below_set ?_ GE101.out | refine below_set ?_ GE102.out | refine below_set ?_ GE131.out) | exact HB.out)⟩⟩
          ·
           replace c84 := Bool.eq_false_iff.mpr c84
           subst c84
           have H1 : (some false) = some r := by rw [if_neg (show ¬ (false = true) by decide)] at H; exact H
           clear H
           have H := H1
           clear H1
           obtain rfl := Option.some.inj H
           go_wp2_with (first | ((with_reducible refine gate_callee (f := 31) rfl ?_); refine goesL_ (some 107) rfl rfl Tryz.func31 (by kernel_rfl) rfl #[.string t124] rfl (by (try simp only [List.map_toArray, List.map_cons, List.map_nil]); first | done | rfl | (simp only [List.length_drop, List.length_take]; rfl)) ?_; (with_reducible refine (Ob.Gv.getLabel.calls t124 t126 t127 t128 t129 false _ A83.out).mono ?_); rintro e w100 ⟨rfl, hb⟩; refine ⟨_, rfl, ?_⟩; have n0_ := Aside0.mk (blk_below (g := gb101) (o := .cells #[.string a1_0, .slice A1_1 l1_1.length c1_1, .string a1_2, .string a1_3] 40 (0, 0)) (by (with_reducible repeat (first | refine blk_drewN ?_ _ | refine blk_drew ?_ | refine blk_alloc ?_ _)); exact BK101.out) hb); have n1_ := Aside0.mk (blk_below (g := gb102) (o := .cells #[.string a2_0, .int .i64 a2_1, .string a2_2, .string a2_3] 42 (0, 0)) (by (with_reducible repeat (first | refine blk_drewN ?_ _ | refine blk_drew ?_ | refine blk_alloc ?_ _)); exact BK102.out) hb); have n2_ := Aside0.mk (below_step (by repeat (first | (with_reducible first | exact HB.out | apply below_alloc | apply pw_below_drewN | apply below_drew1 | refine below_set ?_ GE101.out | refine below_set ?_ GE102.out) | exact HB.out)) hb); clear BK101; clear BK102; clear HB; have BK101 := n0_; have BK102 := n1_; have HB := n2_; clear n0_ n1_ n2_; (try clear hb); (try clear hb2); (try clear hk); (try clear hi)) | ((with_reducible refine gate_dst (N := 20) rfl ?_); (try (refine gate_guard (by rfl) ?_; dsimp only)); refine box_event ?hg (N := 20) ?hd (cs := #[.string (⟨#[]⟩ : ByteArray), .int .i64 0, .string (⟨#[]⟩ : ByteArray), .string (⟨#[]⟩ : ByteArray)]) (t := 42) ?hr ?_; (case hd => rfl); (case hg => rfl); (case hr => first | (go_simp; done) | (go_simp; rfl)); intro gb131 hg w101 hbox hb; have n0_ := Aside0.mk (blk_below (g := gb101) (o := .cells #[.string a1_0, .slice A1_1 l1_1.length c1_1, .string a1_2, .string a1_3] 40 (0, 0)) (by (with_reducible repeat (first | refine blk_drewN ?_ _ | refine blk_drew ?_ | refine blk_alloc ?_ _)); exact BK101.out) hb); have n1_ := Aside0.mk (blk_below (g := gb102) (o := .cells #[.string a2_0, .int .i64 a2_1, .string a2_2, .string a2_3] 42 (0, 0)) (by (with_reducible repeat (first | refine blk_drewN ?_ _ | refine blk_drew ?_ | refine blk_alloc ?_ _)); exact BK102.out) hb); have n2_ := Aside0.mk (below_step (by repeat (first | (with_reducible first | exact HB.out | apply below_alloc | apply pw_below_drewN | apply below_drew1 | refine below_set ?_ GE101.out | refine below_set ?_ GE102.out) | exact HB.out)) hb); have n3_ := Aside0.mk (hbox); have n4_ := Aside0.mk ((by rw [hg]; exact (below_size (by repeat (first | (with_reducible first | exact HB.out | apply below_alloc | apply pw_below_drewN | apply below_drew1 | refine below_set ?_ GE101.out | refine below_set ?_ GE102.out) | exact HB.out))) : w.heap.size ≤ gb131)); have n5_ := Aside0.mk ((by rw [hg]; exact (below_size (by repeat (first | (with_reducible first | exact HB.out | apply below_alloc | apply pw_below_drewN | apply below_drew1 | refine below_set ?_ GE101.out | refine below_set ?_ GE102.out) | exact HB.out))) : w.heap.size ≤ gb131)); have n6_ := Aside0.mk ((by rw [hg]; exact Nat.ne_of_lt (blk_lt (g := gb101) (o := .cells #[.string a1_0, .slice A1_1 l1_1.length c1_1, .string a1_2, .string a1_3] 40 (0, 0)) (by (with_reducible repeat (first | refine blk_drewN ?_ _ | refine blk_drew ?_ | refine blk_alloc ?_ _)); exact BK101.out)) : gb101 ≠ gb131)); have n7_ := Aside0.mk ((by rw [hg]; exact Nat.ne_of_gt (blk_lt (g := gb101) (o := .cells #[.string a1_0, .slice A1_1 l1_1.length c1_1, .string a1_2, .string a1_3] 40 (0, 0)) (by (with_reducible repeat (first | refine blk_drewN ?_ _ | refine blk_drew ?_ | refine blk_alloc ?_ _)); exact BK101.out)) : gb131 ≠ gb101)); have n8_ := Aside0.mk ((by rw [hg]; exact Nat.ne_of_lt (blk_lt (g := gb102) (o := .cells #[.string a2_0, .int .i64 a2_1, .string a2_2, .string a2_3] 42 (0, 0)) (by (with_reducible repeat (first | refine blk_drewN ?_ _ | refine blk_drew ?_ | refine blk_alloc ?_ _)); exact BK102.out)) : gb102 ≠ gb131)); have n9_ := Aside0.mk ((by rw [hg]; exact Nat.ne_of_gt (blk_lt (g := gb102) (o := .cells #[.string a2_0, .int .i64 a2_1, .string a2_2, .string a2_3] 42 (0, 0)) (by (with_reducible repeat (first | refine blk_drewN ?_ _ | refine blk_drew ?_ | refine blk_alloc ?_ _)); exact BK102.out)) : gb131 ≠ gb102)); clear BK101; clear BK102; clear HB; have BK101 := n0_; have BK102 := n1_; have HB := n2_; have BK131 := n3_; have GW131 := n4_; have GE131 := n5_; have NB101_131 := n6_; have NB131_101 := n7_; have NB102_131 := n8_; have NB131_102 := n9_; clear n0_ n1_ n2_ n3_ n4_ n5_ n6_ n7_ n8_ n9_; clear hb hbox hg; have hnb102 := NB131_101.out; have hnc102 := NB101_131.out; have hnb103 := NB131_102.out; have hnc103 := NB102_131.out; have hcz104_0 : w101.cell? ⟨gb131, 0, none⟩ = some (.string (⟨#[]⟩ : ByteArray)) := (blk_cell BK131.out 0).trans rfl; have hcz104_1 : w101.cell? ⟨gb131, 1, none⟩ = some (.int .i64 0) := (blk_cell BK131.out 1).trans rfl; have hcz104_2 : w101.cell? ⟨gb131, 2, none⟩ = some (.string (⟨#[]⟩ : ByteArray)) := (blk_cell BK131.out 2).trans rfl; have hcz104_3 : w101.cell? ⟨gb131, 3, none⟩ = some (.string (⟨#[]⟩ : ByteArray)) := (blk_cell BK131.out 3).trans rfl; have hfz104_0 := blk_frozen BK131.out 0; have hfz104_1 := blk_frozen BK131.out 1; have hfz104_2 := blk_frozen BK131.out 2; have hfz104_3 := blk_frozen BK131.out 3))
           go_ret
           exact ⟨by first | rfl | (simp [errW_none, errW_some] <;> rfl) | (simp [*, errW_none, errW_some] <;> rfl), by repeat (first | (with_reducible first | exact HB.out | apply below_alloc | apply pw_below_drewN | apply below_drew1 | refine below_set ?_ GE101.out | refine below_set ?_ GE102.out | refine below_set ?_ GE131.out) | exact HB.out)⟩
         ·
          replace c82 := Bool.eq_false_iff.mpr c82
          subst c82
          have H1 : (w04_ObjectBack.j3 kj43 a3 t103) = some r := by rw [if_neg (show ¬ (false = true) by decide)] at H; exact H
          clear H
          have H := H1
          clear H1
          have H' := Aside0.mk H
          clear H
          go_wp2
          go_meet
          case rel => exact ⟨_, H', ⟨by have := HJ5.out; have := HJ30.out; have := HJ43.out; first | omega | exact Nat.le_refl _⟩, ⟨by (with_reducible repeat (first | refine blk_drewN ?_ _ | refine blk_drew ?_ | refine blk_alloc ?_ _)); exact BK101.out⟩, ⟨by (with_reducible repeat (first | refine blk_drewN ?_ _ | refine blk_drew ?_ | refine blk_alloc ?_ _)); exact BK102.out⟩, ⟨by repeat (first | (with_reducible first | exact HB.out | apply below_alloc | apply pw_below_drewN | apply below_drew1 | refine below_set ?_ GE101.out | refine below_set ?_ GE102.out) | exact HB.out)⟩⟩
        case rest =>
         clear HC78
         try clear c1
         try clear c2
         try clear p2
         try clear c3
         try clear c4
         try clear c5
         try clear c6
         try clear p6
         try clear c7
         try clear c8
         try clear c9
         try clear c10
         try clear c11
         try clear c14
         try clear c16
         try clear c18
         try clear c19
         try clear c19b0
         try clear c19b1
         try clear c21
         try clear c25
         try clear c27
         try clear c29
         try clear c31
         try clear c33
         try clear c35
         try clear c37
         try clear c45
         try clear c48
         try clear c50
         try clear c52
         try clear c55
         try clear c56
         try clear c59
         try clear c64
         try clear p64
         try clear c65
         try clear c68
         try clear c73
         try clear c74
         try clear c79
         try clear c82
         try clear c84
         try clear c85
         try clear c85b0
         try clear c88
         try clear c89
         try clear c91
         try clear c95
         try clear c96
         try clear c98
         try clear c102
         try clear c103
         try clear hcz104_0
         try clear hcz104_1
         try clear hcz104_2
         try clear hcz104_3
         try clear hcz17_0
         try clear hcz17_1
         try clear hcz17_2
         try clear hcz17_3
         try clear hcz22_0
         try clear hcz22_1
         try clear hcz22_2
         try clear hcz22_3
         try clear hcz26_0
         try clear hcz26_1
         try clear hcz26_2
         try clear hcz26_3
         try clear hcz28_0
         try clear hcz28_1
         try clear hcz28_2
         try clear hcz28_3
         try clear hcz46_0
         try clear hcz46_1
         try clear hcz46_2
         try clear hcz46_3
         try clear hcz57_0
         try clear hcz57_1
         try clear hcz57_2
         try clear hcz57_3
         try clear hcz60_0
         try clear hcz60_1
         try clear hcz60_2
         try clear hcz60_3
         try clear hcz66_0
         try clear hcz66_1
         try clear hcz66_2
         try clear hcz66_3
         try clear hcz69_0
         try clear hcz69_1
         try clear hcz69_2
         try clear hcz69_3
         try clear hcz75_0
         try clear hcz75_1
         try clear hcz75_2
         try clear hcz75_3
         try clear hcz80_0
         try clear hcz80_1
         try clear hcz80_2
         try clear hcz80_3
         try clear hcz90_0
         try clear hcz90_1
         try clear hcz90_2
         try clear hcz90_3
         try clear hcz92_0
         try clear hcz92_1
         try clear hcz92_2
         try clear hcz92_3
         try clear hcz97_0
         try clear hcz97_1
         try clear hcz97_2
         try clear hcz97_3
         try clear hcz99_0
         try clear hcz99_1
         try clear hcz99_2
         try clear hcz99_3
         try clear hfz104_0
         try clear hfz104_1
         try clear hfz104_2
         try clear hfz104_3
         try clear hfz17_0
         try clear hfz17_1
         try clear hfz17_2
         try clear hfz17_3
         try clear hfz22_0
         try clear hfz22_1
         try clear hfz22_2
         try clear hfz22_3
         try clear hfz26_0
         try clear hfz26_1
         try clear hfz26_2
         try clear hfz26_3
         try clear hfz28_0
         try clear hfz28_1
         try clear hfz28_2
         try clear hfz28_3
         try clear hfz46_0
         try clear hfz46_1
         try clear hfz46_2
         try clear hfz46_3
         try clear hfz57_0
         try clear hfz57_1
         try clear hfz57_2
         try clear hfz57_3
         try clear hfz60_0
         try clear hfz60_1
         try clear hfz60_2
         try clear hfz60_3
         try clear hfz66_0
         try clear hfz66_1
         try clear hfz66_2
         try clear hfz66_3
         try clear hfz69_0
         try clear hfz69_1
         try clear hfz69_2
         try clear hfz69_3
         try clear hfz75_0
         try clear hfz75_1
         try clear hfz75_2
         try clear hfz75_3
         try clear hfz80_0
         try clear hfz80_1
         try clear hfz80_2
         try clear hfz80_3
         try clear hfz90_0
         try clear hfz90_1
         try clear hfz90_2
         try clear hfz90_3
         try clear hfz92_0
         try clear hfz92_1
         try clear hfz92_2
         try clear hfz92_3
         try clear hfz97_0
         try clear hfz97_1
         try clear hfz97_2
         try clear hfz97_3
         try clear hfz99_0
         try clear hfz99_1
         try clear hfz99_2
         try clear hfz99_3
         try clear p2
         try clear p6
         try clear p64
         obtain ⟨kq, HA, HJ77, BK101, BK102, HB⟩ := hcut
         cases kq with
         | zero => exact absurd HA.out (by simp [w04_ObjectBack.j3])
         | succ kj77 =>
          have H := HA.out
          clear HA
          simp only [w04_ObjectBack.j3] at H
          replace H := Option.bind_eq_some_iff.mp H
          obtain ⟨⟨t132, t133⟩, A1050, H⟩ := H
          replace H : ((Ob.Gv.getChange.f a3).bind fun bt136 => ((Ob.Gv.getLabel.f a3).bind fun bt144 => (if t133 = true then ((Ob.Gv.putTree.f t132).bind fun bt150 => (if bt150.2 = true then (if bt150.1.toList = a3.toList then (w04_ObjectBack.j4 kj77 a3 t103 t133 bt136.2.2.2.2 bt144.2.2.2.2 bt136.1 bt136.2.1 bt136.2.2.1 bt136.2.2.2.1 bt144.1 bt144.2.1 bt144.2.2.1 bt144.2.2.2.1) else (some false)) else (some false))) else (w04_ObjectBack.j4 kj77 a3 t103 t133 bt136.2.2.2.2 bt144.2.2.2.2 bt136.1 bt136.2.1 bt136.2.2.1 bt136.2.2.2.1 bt144.1 bt144.2.1 bt144.2.2.1 bt144.2.2.2.1)))) = some r := H
          have A105 := Aside0.mk A1050
          clear A1050
          replace H := Option.bind_eq_some_iff.mp H
          obtain ⟨⟨t136, t137, t140, t141, t142⟩, A1060, H⟩ := H
          replace H : ((Ob.Gv.getLabel.f a3).bind fun bt144 => (if t133 = true then ((Ob.Gv.putTree.f t132).bind fun bt150 => (if bt150.2 = true then (if bt150.1.toList = a3.toList then (w04_ObjectBack.j4 kj77 a3 t103 t133 t142 bt144.2.2.2.2 t136 t137 t140 t141 bt144.1 bt144.2.1 bt144.2.2.1 bt144.2.2.2.1) else (some false)) else (some false))) else (w04_ObjectBack.j4 kj77 a3 t103 t133 t142 bt144.2.2.2.2 t136 t137 t140 t141 bt144.1 bt144.2.1 bt144.2.2.1 bt144.2.2.2.1))) = some r := H
          have A106 := Aside0.mk A1060
          clear A1060
          replace H := Option.bind_eq_some_iff.mp H
          obtain ⟨⟨t144, t145, t146, t147, t148⟩, A1070, H⟩ := H
          replace H : (if t133 = true then ((Ob.Gv.putTree.f t132).bind fun bt150 => (if bt150.2 = true then (if bt150.1.toList = a3.toList then (w04_ObjectBack.j4 kj77 a3 t103 t133 t142 t148 t136 t137 t140 t141 t144 t145 t146 t147) else (some false)) else (some false))) else (w04_ObjectBack.j4 kj77 a3 t103 t133 t142 t148 t136 t137 t140 t141 t144 t145 t146 t147)) = some r := H
          have A107 := Aside0.mk A1070
          clear A1070
          have HC108 := Aside0.mk H
          clear H
          go_upto_if 132 with (first | ((with_reducible refine gate_callee (f := 21) rfl ?_); refine goesL_ (some 119) rfl rfl Tryz.func21 (by kernel_rfl) rfl #[.string a3] rfl (by (try simp only [List.map_toArray, List.map_cons, List.map_nil]); first | done | rfl | (simp only [List.length_drop, List.length_take]; rfl)) ?_; (with_reducible refine (PObGet.object_GetTree.calls kj77 a3 t132 t133 _ A105.out (HTAB_.out _ (by first | exact Below.refl _ _ | (with_reducible exact Aside0.out (by assumption)) | repeat (first | (with_reducible exact Aside0.out (by assumption)) | apply below_alloc | apply pw_below_drewN | apply below_drew1 | (refine below_set ?_ ?_; rotate_left; (with_reducible exact Aside0.out (by assumption))))))).mono ?_); rintro e w109 ⟨v134, rfl, ho0, hb⟩; refine ⟨_, rfl, ?_⟩; have n0_ := Aside0.mk (Kd.R_lower ho0 (below_size (by repeat (first | (with_reducible first | exact HB.out | apply below_alloc | apply pw_below_drewN | apply below_drew1 | refine below_set ?_ GE101.out | refine below_set ?_ GE102.out) | exact HB.out)))); have n1_ := Aside0.mk (blk_below (g := gb101) (o := .cells #[.string a1_0, .slice A1_1 l1_1.length c1_1, .string a1_2, .string a1_3] 40 (0, 0)) (by (with_reducible repeat (first | refine blk_drewN ?_ _ | refine blk_drew ?_ | refine blk_alloc ?_ _)); exact BK101.out) hb); have n2_ := Aside0.mk (blk_below (g := gb102) (o := .cells #[.string a2_0, .int .i64 a2_1, .string a2_2, .string a2_3] 42 (0, 0)) (by (with_reducible repeat (first | refine blk_drewN ?_ _ | refine blk_drew ?_ | refine blk_alloc ?_ _)); exact BK102.out) hb); have n3_ := Aside0.mk (below_step (by repeat (first | (with_reducible first | exact HB.out | apply below_alloc | apply pw_below_drewN | apply below_drew1 | refine below_set ?_ GE101.out | refine below_set ?_ GE102.out) | exact HB.out)) hb); clear BK101; clear BK102; clear HB; have HO135 := n0_; have BK101 := n1_; have BK102 := n2_; have HB := n3_; clear n0_ n1_ n2_ n3_; (try clear hb); (try clear hb2); (try clear hk); (try clear hi); (try clear ho0)) | ((with_reducible refine gate_callee (f := 29) rfl ?_); refine goesL_ (some 124) rfl rfl Tryz.func29 (by kernel_rfl) rfl #[.string a3] rfl (by (try simp only [List.map_toArray, List.map_cons, List.map_nil]); first | done | rfl | (simp only [List.length_drop, List.length_take]; rfl)) ?_; (with_reducible refine (Ob.Gv.getChange.calls a3 t136 t137 t140 t141 t142 _ A106.out).mono ?_); rintro e w110 ⟨v138, rfl, ho0, hb⟩; refine ⟨_, rfl, ?_⟩; have n0_ := Aside0.mk (Kd.R_below (by (with_reducible repeat (first | apply Kd.R_alloc | apply Kd.R_drewN | apply Kd.R_drew)); exact HO135.out) hb); have n1_ := Aside0.mk (Kd.R_lower ho0 (below_size (by repeat (first | (with_reducible first | exact HB.out | apply below_alloc | apply pw_below_drewN | apply below_drew1 | refine below_set ?_ GE101.out | refine below_set ?_ GE102.out) | exact HB.out)))); have n2_ := Aside0.mk (blk_below (g := gb101) (o := .cells #[.string a1_0, .slice A1_1 l1_1.length c1_1, .string a1_2, .string a1_3] 40 (0, 0)) (by (with_reducible repeat (first | refine blk_drewN ?_ _ | refine blk_drew ?_ | refine blk_alloc ?_ _)); exact BK101.out) hb); have n3_ := Aside0.mk (blk_below (g := gb102) (o := .cells #[.string a2_0, .int .i64 a2_1, .string a2_2, .string a2_3] 42 (0, 0)) (by (with_reducible repeat (first | refine blk_drewN ?_ _ | refine blk_drew ?_ | refine blk_alloc ?_ _)); exact BK102.out) hb); have n4_ := Aside0.mk (below_step (by repeat (first | (with_reducible first | exact HB.out | apply below_alloc | apply pw_below_drewN | apply below_drew1 | refine below_set ?_ GE101.out | refine below_set ?_ GE102.out) | exact HB.out)) hb); clear HO135; clear BK101; clear BK102; clear HB; have HO135 := n0_; have HO139 := n1_; have BK101 := n2_; have BK102 := n3_; have HB := n4_; clear n0_ n1_ n2_ n3_ n4_; (try clear hb); (try clear hb2); (try clear hk); (try clear hi); (try clear ho0)) | ((with_reducible refine gate_dst (N := 24) rfl ?_); (try (refine gate_guard (by rfl) ?_; dsimp only)); refine box_event ?hg (N := 24) ?hd (cs := #[.string (⟨#[]⟩ : ByteArray), .slice none 0 0, .string (⟨#[]⟩ : ByteArray), .string (⟨#[]⟩ : ByteArray)]) (t := 40) ?hr ?_; (case hd => rfl); (case hg => rfl); (case hr => first | (go_simp; done) | (go_simp; rfl)); intro gb143 hg w111 hbox hb; have n0_ := Aside0.mk (Kd.R_below (by (with_reducible repeat (first | apply Kd.R_alloc | apply Kd.R_drewN | apply Kd.R_drew)); exact HO135.out) hb); have n1_ := Aside0.mk (Kd.R_below (by (with_reducible repeat (first | apply Kd.R_alloc | apply Kd.R_drewN | apply Kd.R_drew)); exact HO139.out) hb); have n2_ := Aside0.mk (blk_below (g := gb101) (o := .cells #[.string a1_0, .slice A1_1 l1_1.length c1_1, .string a1_2, .string a1_3] 40 (0, 0)) (by (with_reducible repeat (first | refine blk_drewN ?_ _ | refine blk_drew ?_ | refine blk_alloc ?_ _)); exact BK101.out) hb); have n3_ := Aside0.mk (blk_below (g := gb102) (o := .cells #[.string a2_0, .int .i64 a2_1, .string a2_2, .string a2_3] 42 (0, 0)) (by (with_reducible repeat (first | refine blk_drewN ?_ _ | refine blk_drew ?_ | refine blk_alloc ?_ _)); exact BK102.out) hb); have n4_ := Aside0.mk (below_step (by repeat (first | (with_reducible first | exact HB.out | apply below_alloc | apply pw_below_drewN | apply below_drew1 | refine below_set ?_ GE101.out | refine below_set ?_ GE102.out) | exact HB.out)) hb); have n5_ := Aside0.mk (hbox); have n6_ := Aside0.mk ((by rw [hg]; exact (below_size (by repeat (first | (with_reducible first | exact HB.out | apply below_alloc | apply pw_below_drewN | apply below_drew1 | refine below_set ?_ GE101.out | refine below_set ?_ GE102.out) | exact HB.out))) : w.heap.size ≤ gb143)); have n7_ := Aside0.mk ((by rw [hg]; exact (below_size (by repeat (first | (with_reducible first | exact HB.out | apply below_alloc | apply pw_below_drewN | apply below_drew1 | refine below_set ?_ GE101.out | refine below_set ?_ GE102.out) | exact HB.out))) : w.heap.size ≤ gb143)); have n8_ := Aside0.mk ((by rw [hg]; exact Nat.ne_of_lt (blk_lt (g := gb101) (o := .cells #[.string a1_0, .slice A1_1 l1_1.length c1_1, .string a1_2, .string a1_3] 40 (0, 0)) (by (with_reducible repeat (first | refine blk_drewN ?_ _ | refine blk_drew ?_ | refine blk_alloc ?_ _)); exact BK101.out)) : gb101 ≠ gb143)); have n9_ := Aside0.mk ((by rw [hg]; exact Nat.ne_of_gt (blk_lt (g := gb101) (o := .cells #[.string a1_0, .slice A1_1 l1_1.length c1_1, .string a1_2, .string a1_3] 40 (0, 0)) (by (with_reducible repeat (first | refine blk_drewN ?_ _ | refine blk_drew ?_ | refine blk_alloc ?_ _)); exact BK101.out)) : gb143 ≠ gb101)); have n10_ := Aside0.mk ((by rw [hg]; exact Nat.ne_of_lt (blk_lt (g := gb102) (o := .cells #[.string a2_0, .int .i64 a2_1, .string a2_2, .string a2_3] 42 (0, 0)) (by (with_reducible repeat (first | refine blk_drewN ?_ _ | refine blk_drew ?_ | refine blk_alloc ?_ _)); exact BK102.out)) : gb102 ≠ gb143)); have n11_ := Aside0.mk ((by rw [hg]; exact Nat.ne_of_gt (blk_lt (g := gb102) (o := .cells #[.string a2_0, .int .i64 a2_1, .string a2_2, .string a2_3] 42 (0, 0)) (by (with_reducible repeat (first | refine blk_drewN ?_ _ | refine blk_drew ?_ | refine blk_alloc ?_ _)); exact BK102.out)) : gb143 ≠ gb102)); clear HO135; clear HO139; clear BK101; clear BK102; clear HB; have HO135 := n0_; have HO139 := n1_; have BK101 := n2_; have BK102 := n3_; have HB := n4_; have BK143 := n5_; have GW143 := n6_; have GE143 := n7_; have NB101_143 := n8_; have NB143_101 := n9_; have NB102_143 := n10_; have NB143_102 := n11_; clear n0_ n1_ n2_ n3_ n4_ n5_ n6_ n7_ n8_ n9_ n10_ n11_; clear hb hbox hg; have hnb112 := NB143_101.out; have hnc112 := NB101_143.out; have hnb113 := NB143_102.out; have hnc113 := NB102_143.out; have hcz114_0 : w111.cell? ⟨gb143, 0, none⟩ = some (.string (⟨#[]⟩ : ByteArray)) := (blk_cell BK143.out 0).trans rfl; have hcz114_1 : w111.cell? ⟨gb143, 1, none⟩ = some (.slice none 0 0) := (blk_cell BK143.out 1).trans rfl; have hcz114_2 : w111.cell? ⟨gb143, 2, none⟩ = some (.string (⟨#[]⟩ : ByteArray)) := (blk_cell BK143.out 2).trans rfl; have hcz114_3 : w111.cell? ⟨gb143, 3, none⟩ = some (.string (⟨#[]⟩ : ByteArray)) := (blk_cell BK143.out 3).trans rfl; have hfz114_0 := blk_frozen BK143.out 0; have hfz114_1 := blk_frozen BK143.out 1; have hfz114_2 := blk_frozen BK143.out 2; have hfz114_3 := blk_frozen BK143.out 3; obtain ⟨Ao115, co115, eo115⟩ := Kd.R_slice HO139.out; subst eo115) | ((with_reducible refine gate_callee (f := 31) rfl ?_); refine goesL_ (some 129) rfl rfl Tryz.func31 (by kernel_rfl) rfl #[.string a3] rfl (by (try simp only [List.map_toArray, List.map_cons, List.map_nil]); first | done | rfl | (simp only [List.length_drop, List.length_take]; rfl)) ?_; (with_reducible refine (Ob.Gv.getLabel.calls a3 t144 t145 t146 t147 t148 _ A107.out).mono ?_); rintro e w116 ⟨rfl, hb⟩; refine ⟨_, rfl, ?_⟩; have n0_ := Aside0.mk (Kd.R_below (by (with_reducible repeat (first | apply Kd.R_alloc | apply Kd.R_drewN | apply Kd.R_drew)); exact (Kd.R_mono (Kd.R_far (p := ⟨gb143, 3, none⟩) (Kd.R_far (p := ⟨gb143, 2, none⟩) (Kd.R_far (p := ⟨gb143, 1, none⟩) (Kd.R_far (p := ⟨gb143, 0, none⟩) (Kd.R_types HO135.out BK143.out (by decide)) (fun _ hk => hk.2) (.string t136)) (fun _ hk => hk.2) (.slice Ao115 t137.length co115)) (fun _ hk => hk.2) (.string t140)) (fun _ hk => hk.2) (.string t141)) (fun _ h_ => h_.1))) hb); have n1_ := Aside0.mk (Kd.R_below (by (with_reducible repeat (first | apply Kd.R_alloc | apply Kd.R_drewN | apply Kd.R_drew)); exact (Kd.R_mono (Kd.R_far (p := ⟨gb143, 3, none⟩) (Kd.R_far (p := ⟨gb143, 2, none⟩) (Kd.R_far (p := ⟨gb143, 1, none⟩) (Kd.R_far (p := ⟨gb143, 0, none⟩) (Kd.R_types HO139.out BK143.out (by decide)) (fun _ hk => hk.2) (.string t136)) (fun _ hk => hk.2) (.slice Ao115 t137.length co115)) (fun _ hk => hk.2) (.string t140)) (fun _ hk => hk.2) (.string t141)) (fun _ h_ => h_.1))) hb); have n2_ := Aside0.mk (blk_below (g := gb101) (o := .cells #[.string a1_0, .slice A1_1 l1_1.length c1_1, .string a1_2, .string a1_3] 40 (0, 0)) (by (with_reducible repeat (first | refine blk_drewN ?_ _ | refine blk_drew ?_ | refine blk_alloc ?_ _)); refine blk_far ?_ NB101_143.out _; (with_reducible repeat (first | refine blk_drewN ?_ _ | refine blk_drew ?_ | refine blk_alloc ?_ _)); refine blk_far ?_ NB101_143.out _; (with_reducible repeat (first | refine blk_drewN ?_ _ | refine blk_drew ?_ | refine blk_alloc ?_ _)); refine blk_far ?_ NB101_143.out _; (with_reducible repeat (first | refine blk_drewN ?_ _ | refine blk_drew ?_ | refine blk_alloc ?_ _)); refine blk_far ?_ NB101_143.out _; (with_reducible repeat (first | refine blk_drewN ?_ _ | refine blk_drew ?_ | refine blk_alloc ?_ _)); exact BK101.out) hb); have n3_ := Aside0.mk (blk_below (g := gb102) (o := .cells #[.string a2_0, .int .i64 a2_1, .string a2_2, .string a2_3] 42 (0, 0)) (by (with_reducible repeat (first | refine blk_drewN ?_ _ | refine blk_drew ?_ | refine blk_alloc ?_ _)); refine blk_far ?_ NB102_143.out _; (with_reducible repeat (first | refine blk_drewN ?_ _ | refine blk_drew ?_ | refine blk_alloc ?_ _)); refine blk_far ?_ NB102_143.out _; (with_reducible repeat (first | refine blk_drewN ?_ _ | refine blk_drew ?_ | refine blk_alloc ?_ _)); refine blk_far ?_ NB102_143.out _; (with_reducible repeat (first | refine blk_drewN ?_ _ | refine blk_drew ?_ | refine blk_alloc ?_ _)); refine blk_far ?_ NB102_143.out _; (with_reducible repeat (first | refine blk_drewN ?_ _ | refine blk_drew ?_ | refine blk_alloc ?_ _)); exact BK102.out) hb); have n4_ := Aside0.mk (blk_below (g := gb143) (o := .cells #[.string t136, .slice Ao115 t137.length co115, .string t140, .string t141] 40 (0, 0)) (by (with_reducible repeat (first | refine blk_drewN ?_ _ | refine blk_drew ?_ | refine blk_alloc ?_ _)); refine blk_put (cs := #[.string t136, .slice Ao115 t137.length co115, .string t140, .string (⟨#[]⟩ : ByteArray)]) ?_ 3 _ rfl; (with_reducible repeat (first | refine blk_drewN ?_ _ | refine blk_drew ?_ | refine blk_alloc ?_ _)); refine blk_put (cs := #[.string t136, .slice Ao115 t137.length co115, .string (⟨#[]⟩ : ByteArray), .string (⟨#[]⟩ : ByteArray)]) ?_ 2 _ rfl; (with_reducible repeat (first | refine blk_drewN ?_ _ | refine blk_drew ?_ | refine blk_alloc ?_ _)); refine blk_put (cs := #[.string t136, .slice none 0 0, .string (⟨#[]⟩ : ByteArray), .string (⟨#[]⟩ : ByteArray)]) ?_ 1 _ rfl; (with_reducible repeat (first | refine blk_drewN ?_ _ | refine blk_drew ?_ | refine blk_alloc ?_ _)); refine blk_put (cs := #[.string (⟨#[]⟩ : ByteArray), .slice none 0 0, .string (⟨#[]⟩ : ByteArray), .string (⟨#[]⟩ : ByteArray)]) ?_ 0 _ rfl; (with_reducible repeat (first | refine blk_drewN ?_ _ | refine blk_drew ?_ | refine blk_alloc ?_ _)); exact BK143.out) hb); have n5_ := Aside0.mk (below_step (by repeat (first | (with_reducible first | exact HB.out | apply below_alloc | apply pw_below_drewN | apply below_drew1 | refine below_set ?_ GE101.out | refine below_set ?_ GE102.out | refine below_set ?_ GE143.out) | exact HB.out)) hb); clear HO135; clear HO139; clear BK101; clear BK102; clear BK143; clear HB; have HO135 := n0_; have HO139 := n1_; have BK101 := n2_; have BK102 := n3_; have BK143 := n4_; have HB := n5_; clear n0_ n1_ n2_ n3_ n4_ n5_; (try clear hb); (try clear hb2); (try clear hk); (try clear hi)) | ((with_reducible refine gate_dst (N := 26) rfl ?_); (try (refine gate_guard (by rfl) ?_; dsimp only)); refine box_event ?hg (N := 26) ?hd (cs := #[.string (⟨#[]⟩ : ByteArray), .int .i64 0, .string (⟨#[]⟩ : ByteArray), .string (⟨#[]⟩ : ByteArray)]) (t := 42) ?hr ?_; (case hd => rfl); (case hg => rfl); (case hr => first | (go_simp; done) | (go_simp; rfl)); intro gb149 hg w117 hbox hb; have n0_ := Aside0.mk (Kd.R_below (by (with_reducible repeat (first | apply Kd.R_alloc | apply Kd.R_drewN | apply Kd.R_drew)); exact HO135.out) hb); have n1_ := Aside0.mk (Kd.R_below (by (with_reducible repeat (first | apply Kd.R_alloc | apply Kd.R_drewN | apply Kd.R_drew)); exact HO139.out) hb); have n2_ := Aside0.mk (blk_below (g := gb101) (o := .cells #[.string a1_0, .slice A1_1 l1_1.length c1_1, .string a1_2, .string a1_3] 40 (0, 0)) (by (with_reducible repeat (first | refine blk_drewN ?_ _ | refine blk_drew ?_ | refine blk_alloc ?_ _)); exact BK101.out) hb); have n3_ := Aside0.mk (blk_below (g := gb102) (o := .cells #[.string a2_0, .int .i64 a2_1, .string a2_2, .string a2_3] 42 (0, 0)) (by (with_reducible repeat (first | refine blk_drewN ?_ _ | refine blk_drew ?_ | refine blk_alloc ?_ _)); exact BK102.out) hb); have n4_ := Aside0.mk (blk_below (g := gb143) (o := .cells #[.string t136, .slice Ao115 t137.length co115, .string t140, .string t141] 40 (0, 0)) (by (with_reducible repeat (first | refine blk_drewN ?_ _ | refine blk_drew ?_ | refine blk_alloc ?_ _)); exact BK143.out) hb); have n5_ := Aside0.mk (below_step (by repeat (first | (with_reducible first | exact HB.out | apply below_alloc | apply pw_below_drewN | apply below_drew1 | refine below_set ?_ GE101.out | refine below_set ?_ GE102.out | refine below_set ?_ GE143.out) | exact HB.out)) hb); have n6_ := Aside0.mk (hbox); have n7_ := Aside0.mk ((by rw [hg]; exact (below_size (by repeat (first | (with_reducible first | exact HB.out | apply below_alloc | apply pw_below_drewN | apply below_drew1 | refine below_set ?_ GE101.out | refine below_set ?_ GE102.out | refine below_set ?_ GE143.out) | exact HB.out))) : w.heap.size ≤ gb149)); have n8_ := Aside0.mk ((by rw [hg]; exact (below_size (by repeat (first | (with_reducible first | exact HB.out | apply below_alloc | apply pw_below_drewN | apply below_drew1 | refine below_set ?_ GE101.out | refine below_set ?_ GE102.out | refine below_set ?_ GE143.out) | exact HB.out))) : w.heap.size ≤ gb149)); have n9_ := Aside0.mk ((by rw [hg]; exact Nat.ne_of_lt (blk_lt (g := gb101) (o := .cells #[.string a1_0, .slice A1_1 l1_1.length c1_1, .string a1_2, .string a1_3] 40 (0, 0)) (by (with_reducible repeat (first | refine blk_drewN ?_ _ | refine blk_drew ?_ | refine blk_alloc ?_ _)); exact BK101.out)) : gb101 ≠ gb149)); have n10_ := Aside0.mk ((by rw [hg]; exact Nat.ne_of_gt (blk_lt (g := gb101) (o := .cells #[.string a1_0, .slice A1_1 l1_1.length c1_1, .string a1_2, .string a1_3] 40 (0, 0)) (by (with_reducible repeat (first | refine blk_drewN ?_ _ | refine blk_drew ?_ | refine blk_alloc ?_ _)); exact BK101.out)) : gb149 ≠ gb101)); have n11_ := Aside0.mk ((by rw [hg]; exact Nat.ne_of_lt (blk_lt (g := gb102) (o := .cells #[.string a2_0, .int .i64 a2_1, .string a2_2, .string a2_3] 42 (0, 0)) (by (with_reducible repeat (first | refine blk_drewN ?_ _ | refine blk_drew ?_ | refine blk_alloc ?_ _)); exact BK102.out)) : gb102 ≠ gb149)); have n12_ := Aside0.mk ((by rw [hg]; exact Nat.ne_of_gt (blk_lt (g := gb102) (o := .cells #[.string a2_0, .int .i64 a2_1, .string a2_2, .string a2_3] 42 (0, 0)) (by (with_reducible repeat (first | refine blk_drewN ?_ _ | refine blk_drew ?_ | refine blk_alloc ?_ _)); exact BK102.out)) : gb149 ≠ gb102)); have n13_ := Aside0.mk ((by rw [hg]; exact Nat.ne_of_lt (blk_lt (g := gb143) (o := .cells #[.string t136, .slice Ao115 t137.length co115, .string t140, .string t141] 40 (0, 0)) (by (with_reducible repeat (first | refine blk_drewN ?_ _ | refine blk_drew ?_ | refine blk_alloc ?_ _)); exact BK143.out)) : gb143 ≠ gb149)); have n14_ := Aside0.mk ((by rw [hg]; exact Nat.ne_of_gt (blk_lt (g := gb143) (o := .cells #[.string t136, .slice Ao115 t137.length co115, .string t140, .string t141] 40 (0, 0)) (by (with_reducible repeat (first | refine blk_drewN ?_ _ | refine blk_drew ?_ | refine blk_alloc ?_ _)); exact BK143.out)) : gb149 ≠ gb143)); clear HO135; clear HO139; clear BK101; clear BK102; clear BK143; clear HB; have HO135 := n0_; have HO139 := n1_; have BK101 := n2_; have BK102 := n3_; have BK143 := n4_; have HB := n5_; have BK149 := n6_; have GW149 := n7_; have GE149 := n8_; have NB101_149 := n9_; have NB149_101 := n10_; have NB102_149 := n11_; have NB149_102 := n12_; have NB143_149 := n13_; have NB149_143 := n14_; clear n0_ n1_ n2_ n3_ n4_ n5_ n6_ n7_ n8_ n9_ n10_ n11_ n12_ n13_ n14_; clear hb hbox hg; have hnb118 := NB149_101.out; have hnc118 := NB101_149.out; have hnb119 := NB149_102.out; have hnc119 := NB102_149.out; have hnb120 := NB149_143.out; have hnc120 := NB143_149.out; have hcz121_0 : w117.cell? ⟨gb149, 0, none⟩ = some (.string (⟨#[]⟩ : ByteArray)) := (blk_cell BK149.out 0).trans rfl; have hcz121_1 : w117.cell? ⟨gb149, 1, none⟩ = some (.int .i64 0) := (blk_cell BK149.out 1).trans rfl; have hcz121_2 : w117.cell? ⟨gb149, 2, none⟩ = some (.string (⟨#[]⟩ : ByteArray)) := (blk_cell BK149.out 2).trans rfl; have hcz121_3 : w117.cell? ⟨gb149, 3, none⟩ = some (.string (⟨#[]⟩ : ByteArray)) := (blk_cell BK149.out 3).trans rfl; have hfz121_0 := blk_frozen BK149.out 0; have hfz121_1 := blk_frozen BK149.out 1; have hfz121_2 := blk_frozen BK149.out 2; have hfz121_3 := blk_frozen BK149.out 3))
          (try simp only [Act.put, List.setIfInBounds_toArray, List.set_cons_zero, List.set_cons_succ])
          go_cut [] (fun wc => ∃ (kq : Nat), Aside0 (w04_ObjectBack.j4 kq a3 t103 t133 t142 t148 t136 t137 t140 t141 t144 t145 t146 t147 = some r) ∧ Aside0 (kq ≤ kj77) ∧ Aside0 (Kd.R Kd.string 9 wc w.heap.size (fun _ => True) (.slice Ao115 t137.length co115) t137) ∧ Aside0 (wc.heap[gb101]? = some (.cells #[.string a1_0, (.slice A1_1 l1_1.length c1_1), .string a1_2, .string a1_3] 40 (0, 0))) ∧ Aside0 (wc.heap[gb102]? = some (.cells #[.string a2_0, .int .i64 a2_1, .string a2_2, .string a2_3] 42 (0, 0))) ∧ Aside0 (wc.heap[gb143]? = some (.cells #[.string t136, (.slice Ao115 t137.length co115), .string t140, .string t141] 40 (0, 0))) ∧ Aside0 (wc.heap[gb149]? = some (.cells #[.string t144, .int .i64 t145, .string t146, .string t147] 42 (0, 0))) ∧ Aside0 (Below w.heap.size w wc))
          case first =>
           have H := HC108.out
           clear HC108
           by_cases c122 : t133 = true
           ·
            subst c122
            have H1 : ((Ob.Gv.putTree.f t132).bind fun bt150 => (if bt150.2 = true then (if bt150.1.toList = a3.toList then (w04_ObjectBack.j4 kj77 a3 t103 true t142 t148 t136 t137 t140 t141 t144 t145 t146 t147) else (some false)) else (some false))) = some r := by rw [if_pos rfl] at H; exact H
            clear H
            have H := H1
            clear H1
            replace H := Option.bind_eq_some_iff.mp H
            obtain ⟨⟨t150, t151⟩, A1230, H⟩ := H
            replace H : (if t151 = true then (if t150.toList = a3.toList then (w04_ObjectBack.j4 kj77 a3 t103 true t142 t148 t136 t137 t140 t141 t144 t145 t146 t147) else (some false)) else (some false)) = some r := H
            have A123 := Aside0.mk A1230
            clear A1230
            by_cases c124 : t151 = true
            ·
             subst c124
             have H1 : (if t150.toList = a3.toList then (w04_ObjectBack.j4 kj77 a3 t103 true t142 t148 t136 t137 t140 t141 t144 t145 t146 t147) else (some false)) = some r := by rw [if_pos rfl] at H; exact H
             clear H
             have H := H1
             clear H1
             by_cases c125 : t150.toList = a3.toList
             ·
              rw [if_pos c125] at H
              have c125b0 : (t150.toList == a3.toList) = true := beq_iff_eq.mpr c125
              have c125b1 : (t150.toList != a3.toList) = false := bne_eq_false_iff_eq.mpr c125
              clear c125
              (first | rw [c125b0] | (simp only [i64_w, i32_w]; rw [c125b0]) | skip)
              have H' := Aside0.mk H
              clear H
              obtain ⟨Ao126, co126, eo126⟩ := Kd.R_slice HO135.out
              subst eo126
              go_wp2_with (first | ((with_reducible refine gate_callee (f := 19) rfl ?_); refine goesL_ (some 135) rfl rfl Tryz.func19 (by kernel_rfl) rfl #[.slice Ao126 t132.length co126] rfl (by (try simp only [List.map_toArray, List.map_cons, List.map_nil]); first | done | rfl | (simp only [List.length_drop, List.length_take]; rfl)) ?_; (with_reducible refine (Ob.Gv.putTree.calls _ _ t132 t150 true _ ?side1 ?side2 A123.out (HTAB_.out _ (by first | exact Below.refl _ _ | (with_reducible exact Aside0.out (by assumption)) | repeat (first | (with_reducible exact Aside0.out (by assumption)) | apply below_alloc | apply pw_below_drewN | apply below_drew1 | (refine below_set ?_ ?_; rotate_left; (with_reducible exact Aside0.out (by assumption))))))).mono ?_); (case side1 => refine (Kd.R_reads' (e := 54) (base := w.heap.size) (ok := fun k_ => True) (n := t132.length) (c := co126) ?_).2.2; exact (by (with_reducible repeat (first | apply Kd.R_alloc | apply Kd.R_drewN | apply Kd.R_drew)); exact (Kd.R_mono (Kd.R_far (p := ⟨gb149, 3, none⟩) (Kd.R_far (p := ⟨gb149, 2, none⟩) (Kd.R_far (p := ⟨gb149, 1, none⟩) (Kd.R_far (p := ⟨gb149, 0, none⟩) (Kd.R_types HO135.out BK149.out (by decide)) (fun _ hk => hk.2) (.string t144)) (fun _ hk => hk.2) (.int .i64 t145)) (fun _ hk => hk.2) (.string t146)) (fun _ hk => hk.2) (.string t147)) (fun _ h_ => h_.1)))); (case side2 => exact (Kd.R_reads' HO135.out).2.1); rintro e w127 ⟨rfl, hb⟩; refine ⟨_, rfl, ?_⟩; have n0_ := Aside0.mk (Kd.R_below (by (with_reducible repeat (first | apply Kd.R_alloc | apply Kd.R_drewN | apply Kd.R_drew)); exact (Kd.R_mono (Kd.R_far (p := ⟨gb149, 3, none⟩) (Kd.R_far (p := ⟨gb149, 2, none⟩) (Kd.R_far (p := ⟨gb149, 1, none⟩) (Kd.R_far (p := ⟨gb149, 0, none⟩) (Kd.R_types HO135.out BK149.out (by decide)) (fun _ hk => hk.2) (.string t144)) (fun _ hk => hk.2) (.int .i64 t145)) (fun _ hk => hk.2) (.string t146)) (fun _ hk => hk.2) (.string t147)) (fun _ h_ => h_.1))) hb); have n1_ := Aside0.mk (Kd.R_below (by (with_reducible repeat (first | apply Kd.R_alloc | apply Kd.R_drewN | apply Kd.R_drew)); exact (Kd.R_mono (Kd.R_far (p := ⟨gb149, 3, none⟩) (Kd.R_far (p := ⟨gb149, 2, none⟩) (Kd.R_far (p := ⟨gb149, 1, none⟩) (Kd.R_far (p := ⟨gb149, 0, none⟩) (Kd.R_types HO139.out BK149.out (by decide)) (fun _ hk => hk.2) (.string t144)) (fun _ hk => hk.2) (.int .i64 t145)) (fun _ hk => hk.2) (.string t146)) (fun _ hk => hk.2) (.string t147)) (fun _ h_ => h_.1))) hb); have n2_ := Aside0.mk (blk_below (g := gb101) (o := .cells #[.string a1_0, .slice A1_1 l1_1.length c1_1, .string a1_2, .string a1_3] 40 (0, 0)) (by (with_reducible repeat (first | refine blk_drewN ?_ _ | refine blk_drew ?_ | refine blk_alloc ?_ _)); refine blk_far ?_ NB101_149.out _; (with_reducible repeat (first | refine blk_drewN ?_ _ | refine blk_drew ?_ | refine blk_alloc ?_ _)); refine blk_far ?_ NB101_149.out _; (with_reducible repeat (first | refine blk_drewN ?_ _ | refine blk_drew ?_ | refine blk_alloc ?_ _)); refine blk_far ?_ NB101_149.out _; (with_reducible repeat (first | refine blk_drewN ?_ _ | refine blk_drew ?_ | refine blk_alloc ?_ _)); refine blk_far ?_ NB101_149.out _; (with_reducible repeat (first | refine blk_drewN ?_ _ | refine blk_drew ?_ | refine blk_alloc ?_ _)); exact BK101.out) hb); have n3_ := Aside0.mk (blk_below (g := gb102) (o := .cells #[.string a2_0, .int .i64 a2_1, .string a2_2, .string a2_3] 42 (0, 0)) (by (with_reducible repeat (first | refine blk_drewN ?_ _ | refine blk_drew ?_ | refine blk_alloc ?_ _)); refine blk_far ?_ NB102_149.out _; (with_reducible repeat (first | refine blk_drewN ?_ _ | refine blk_drew ?_ | refine blk_alloc ?_ _)); refine blk_far ?_ NB102_149.out _; (with_reducible repeat (first | refine blk_drewN ?_ _ | refine blk_drew ?_ | refine blk_alloc ?_ _)); refine blk_far ?_ NB102_149.out _; (with_reducible repeat (first | refine blk_drewN ?_ _ | refine blk_drew ?_ | refine blk_alloc ?_ _)); refine blk_far ?_ NB102_149.out _; (with_reducible repeat (first | refine blk_drewN ?_ _ | refine blk_drew ?_ | refine blk_alloc ?_ _)); exact BK102.out) hb); have n4_ := Aside0.mk (blk_below (g := gb143) (o := .cells #[.string t136, .slice Ao115 t137.length co115, .string t140, .string t141] 40 (0, 0)) (by (with_reducible repeat (first | refine blk_drewN ?_ _ | refine blk_drew ?_ | refine blk_alloc ?_ _)); refine blk_far ?_ NB143_149.out _; (with_reducible repeat (first | refine blk_drewN ?_ _ | refine blk_drew ?_ | refine blk_alloc ?_ _)); refine blk_far ?_ NB143_149.out _; (with_reducible repeat (first | refine blk_drewN ?_ _ | refine blk_drew ?_ | refine blk_alloc ?_ _)); refine blk_far ?_ NB143_149.out _; (with_reducible repeat (first | refine blk_drewN ?_ _ | refine blk_drew ?_ | refine blk_alloc ?_ _)); refine blk_far ?_ NB143_149.out _; (with_reducible repeat (first | refine blk_drewN ?_ _ | refine blk_drew ?_ | refine blk_alloc ?_ _)); exact BK143.out) hb); have n5_ := Aside0.mk (blk_below (g := gb149) (o := .cells #[.string t144, .int .i64 t145, .string t146, .string t147] 42 (0, 0)) (by (with_reducible repeat (first | refine blk_drewN ?_ _ | refine blk_drew ?_ | refine blk_alloc ?_ _)); refine blk_put (cs := #[.string t144, .int .i64 t145, .string t146, .string (⟨#[]⟩ : ByteArray)]) ?_ 3 _ rfl; (with_reducible repeat (first | refine blk_drewN ?_ _ | refine blk_drew ?_ | refine blk_alloc ?_ _)); refine blk_put (cs := #[.string t144, .int .i64 t145, .string (⟨#[]⟩ : ByteArray), .string (⟨#[]⟩ : ByteArray)]) ?_ 2 _ rfl; (with_reducible repeat (first | refine blk_drewN ?_ _ | refine blk_drew ?_ | refine blk_alloc ?_ _)); refine blk_put (cs := #[.string t144, .int .i64 0, .string (⟨#[]⟩ : ByteArray), .string (⟨#[]⟩ : ByteArray)]) ?_ 1 _ rfl; (with_reducible repeat (first | refine blk_drewN ?_ _ | refine blk_drew ?_ | refine blk_alloc ?_ _)); refine blk_put (cs := #[.string (⟨#[]⟩ : ByteArray), .int .i64 0, .string (⟨#[]⟩ : ByteArray), .string (⟨#[]⟩ : ByteArray)]) ?_ 0 _ rfl; (with_reducible repeat (first | refine blk_drewN ?_ _ | refine blk_drew ?_ | refine blk_alloc ?_ _)); exact BK149.out) hb); have n6_ := Aside0.mk (below_step (by repeat (first | (with_reducible first | exact HB.out | apply below_alloc | apply pw_below_drewN | apply below_drew1 | refine below_set ?_ GE101.out | refine below_set ?_ GE102.out | refine below_set ?_ GE143.out | refine below_set ?_ GE149.out) | exact HB.out)) hb); clear HO135; clear HO139; clear BK101; clear BK102; clear BK143; clear BK149; clear HB; have HO135 := n0_; have HO139 := n1_; have BK101 := n2_; have BK102 := n3_; have BK143 := n4_; have BK149 := n5_; have HB := n6_; clear n0_ n1_ n2_ n3_ n4_ n5_ n6_; (try clear hb); (try clear hb2); (try clear hk); (try clear hi)))
              go_meet
              case rel => exact ⟨_, H', ⟨by have := HJ5.out; have := HJ30.out; have := HJ43.out; have := HJ77.out; first | omega | exact Nat.le_refl _⟩, ⟨by (with_reducible repeat (first | apply Kd.R_alloc | apply Kd.R_drewN | apply Kd.R_drew)); exact HO139.out⟩, ⟨by (with_reducible repeat (first | refine blk_drewN ?_ _ | refine blk_drew ?_ | refine blk_alloc ?_ _)); exact BK101.out⟩, ⟨by (with_reducible repeat (first | refine blk_drewN ?_ _ | refine blk_drew ?_ | refine blk_alloc ?_ _)); exact BK102.out⟩, ⟨by (with_reducible repeat (first | refine blk_drewN ?_ _ | refine blk_drew ?_ | refine blk_alloc ?_ _)); exact BK143.out⟩, ⟨by (with_reducible repeat (first | refine blk_drewN ?_ _ | refine blk_drew ?_ | refine blk_alloc ?_ _)); exact BK149.out⟩, ⟨by repeat (first | (with_reducible first | exact HB.out | apply below_alloc | apply pw_below_drewN | apply below_drew1 | refine below_set ?_ GE101.out | refine below_set ?_ GE102.out | refine below_set ?_ GE143.out | refine below_set ?_ GE149.out) | exact HB.out)⟩⟩
             ·
              rw [if_neg c125] at H
              have c125b0 : (t150.toList == a3.toList) = false := beq_eq_false_iff_ne.mpr c125
              have c125b1 : (t150.toList != a3.toList) = true := bne_iff_ne.mpr c125
              (first | rw [c125b0] | (simp only [i64_w, i32_w]; rw [c125b0]) | skip)
              obtain rfl := Option.some.inj H
              obtain ⟨Ao128, co128, eo128⟩ := Kd.R_slice HO135.out
              subst eo128
              go_wp2_with (first | ((with_reducible refine gate_callee (f := 19) rfl ?_); refine goesL_ (some 135) rfl rfl Tryz.func19 (by kernel_rfl) rfl #[.slice Ao128 t132.length co128] rfl (by (try simp only [List.map_toArray, List.map_cons, List.map_nil]); first | done | rfl | (simp only [List.length_drop, List.length_take]; rfl)) ?_; (with_reducible refine (Ob.Gv.putTree.calls _ _ t132 t150 true _ ?side1 ?side2 A123.out (HTAB_.out _ (by first | exact Below.refl _ _ | (with_reducible exact Aside0.out (by assumption)) | repeat (first | (with_reducible exact Aside0.out (by assumption)) | apply below_alloc | apply pw_below_drewN | apply below_drew1 | (refine below_set ?_ ?_; rotate_left; (with_reducible exact Aside0.out (by assumption))))))).mono ?_); (case side1 => refine (Kd.R_reads' (e := 54) (base := w.heap.size) (ok := fun k_ => True) (n := t132.length) (c := co128) ?_).2.2; exact (by (with_reducible repeat (first | apply Kd.R_alloc | apply Kd.R_drewN | apply Kd.R_drew)); exact (Kd.R_mono (Kd.R_far (p := ⟨gb149, 3, none⟩) (Kd.R_far (p := ⟨gb149, 2, none⟩) (Kd.R_far (p := ⟨gb149, 1, none⟩) (Kd.R_far (p := ⟨gb149, 0, none⟩) (Kd.R_types HO135.out BK149.out (by decide)) (fun _ hk => hk.2) (.string t144)) (fun _ hk => hk.2) (.int .i64 t145)) (fun _ hk => hk.2) (.string t146)) (fun _ hk => hk.2) (.string t147)) (fun _ h_ => h_.1)))); (case side2 => exact (Kd.R_reads' HO135.out).2.1); rintro e w129 ⟨rfl, hb⟩; refine ⟨_, rfl, ?_⟩; have n0_ := Aside0.mk (Kd.R_below (by (with_reducible repeat (first | apply Kd.R_alloc | apply Kd.R_drewN | apply Kd.R_drew)); exact (Kd.R_mono (Kd.R_far (p := ⟨gb149, 3, none⟩) (Kd.R_far (p := ⟨gb149, 2, none⟩) (Kd.R_far (p := ⟨gb149, 1, none⟩) (Kd.R_far (p := ⟨gb149, 0, none⟩) (Kd.R_types HO135.out BK149.out (by decide)) (fun _ hk => hk.2) (.string t144)) (fun _ hk => hk.2) (.int .i64 t145)) (fun _ hk => hk.2) (.string t146)) (fun _ hk => hk.2) (.string t147)) (fun _ h_ => h_.1))) hb); have n1_ := Aside0.mk (Kd.R_below (by (with_reducible repeat (first | apply Kd.R_alloc | apply Kd.R_drewN | apply Kd.R_drew)); exact (Kd.R_mono (Kd.R_far (p := ⟨gb149, 3, none⟩) (Kd.R_far (p := ⟨gb149, 2, none⟩) (Kd.R_far (p := ⟨gb149, 1, none⟩) (Kd.R_far (p := ⟨gb149, 0, none⟩) (Kd.R_types HO139.out BK149.out (by decide)) (fun _ hk => hk.2) (.string t144)) (fun _ hk => hk.2) (.int .i64 t145)) (fun _ hk => hk.2) (.string t146)) (fun _ hk => hk.2) (.string t147)) (fun _ h_ => h_.1))) hb); have n2_ := Aside0.mk (blk_below (g := gb101) (o := .cells #[.string a1_0, .slice A1_1 l1_1.length c1_1, .string a1_2, .string a1_3] 40 (0, 0)) (by (with_reducible repeat (first | refine blk_drewN ?_ _ | refine blk_drew ?_ | refine blk_alloc ?_ _)); refine blk_far ?_ NB101_149.out _; (with_reducible repeat (first | refine blk_drewN ?_ _ | refine blk_drew ?_ | refine blk_alloc ?_ _)); refine blk_far ?_ NB101_149.out _; (with_reducible repeat (first | refine blk_drewN ?_ _ | refine blk_drew ?_ | refine blk_alloc ?_ _)); refine blk_far ?_ NB101_149.out _; (with_reducible repeat (first | refine blk_drewN ?_ _ | refine blk_drew ?_ | refine blk_alloc ?_ _)); refine blk_far ?_ NB101_149.out _; (with_reducible repeat (first | refine blk_drewN ?_ _ | refine blk_drew ?_ | refine blk_alloc ?_ _)); exact BK101.out) hb); have n3_ := Aside0.mk (blk_below (g := gb102) (o := .cells #[.string a2_0, .int .i64 a2_1, .string a2_2, .string a2_3] 42 (0, 0)) (by (with_reducible repeat (first | refine blk_drewN ?_ _ | refine blk_drew ?_ | refine blk_alloc ?_ _)); refine blk_far ?_ NB102_149.out _; (with_reducible repeat (first | refine blk_drewN ?_ _ | refine blk_drew ?_ | refine blk_alloc ?_ _)); refine blk_far ?_ NB102_149.out _; (with_reducible repeat (first | refine blk_drewN ?_ _ | refine blk_drew ?_ | refine blk_alloc ?_ _)); refine blk_far ?_ NB102_149.out _; (with_reducible repeat (first | refine blk_drewN ?_ _ | refine blk_drew ?_ | refine blk_alloc ?_ _)); refine blk_far ?_ NB102_149.out _; (with_reducible repeat (first | refine blk_drewN ?_ _ | refine blk_drew ?_ | refine blk_alloc ?_ _)); exact BK102.out) hb); have n4_ := Aside0.mk (blk_below (g := gb143) (o := .cells #[.string t136, .slice Ao115 t137.length co115, .string t140, .string t141] 40 (0, 0)) (by (with_reducible repeat (first | refine blk_drewN ?_ _ | refine blk_drew ?_ | refine blk_alloc ?_ _)); refine blk_far ?_ NB143_149.out _; (with_reducible repeat (first | refine blk_drewN ?_ _ | refine blk_drew ?_ | refine blk_alloc ?_ _)); refine blk_far ?_ NB143_149.out _; (with_reducible repeat (first | refine blk_drewN ?_ _ | refine blk_drew ?_ | refine blk_alloc ?_ _)); refine blk_far ?_ NB143_149.out _; (with_reducible repeat (first | refine blk_drewN ?_ _ | refine blk_drew ?_ | refine blk_alloc ?_ _)); refine blk_far ?_ NB143_149.out _; (with_reducible repeat (first | refine blk_drewN ?_ _ | refine blk_drew ?_ | refine blk_alloc ?_ _)); exact BK143.out) hb); have n5_ := Aside0.mk (blk_below (g := gb149) (o := .cells #[.string t144, .int .i64 t145, .string t146, .string t147] 42 (0, 0)) (by (with_reducible repeat (first | refine blk_drewN ?_ _ | refine blk_drew ?_ | refine blk_alloc ?_ _)); refine blk_put (cs := #[.string t144, .int .i64 t145, .string t146, .string (⟨#[]⟩ : ByteArray)]) ?_ 3 _ rfl; (with_reducible repeat (first | refine blk_drewN ?_ _ | refine blk_drew ?_ | refine blk_alloc ?_ _)); refine blk_put (cs := #[.string t144, .int .i64 t145, .string (⟨#[]⟩ : ByteArray), .string (⟨#[]⟩ : ByteArray)]) ?_ 2 _ rfl; (with_reducible repeat (first | refine blk_drewN ?_ _ | refine blk_drew ?_ | refine blk_alloc ?_ _)); refine blk_put (cs := #[.string t144, .int .i64 0, .string (⟨#[]⟩ : ByteArray), .string (⟨#[]⟩ : ByteArray)]) ?_ 1 _ rfl; (with_reducible repeat (first | refine blk_drewN ?_ _ | refine blk_drew ?_ | refine blk_alloc ?_ _)); refine blk_put (cs := #[.string (⟨#[]⟩ : ByteArray), .int .i64 0, .string (⟨#[]⟩ : ByteArray), .string (⟨#[]⟩ : ByteArray)]) ?_ 0 _ rfl; (with_reducible repeat (first | refine blk_drewN ?_ _ | refine blk_drew ?_ | refine blk_alloc ?_ _)); exact BK149.out) hb); have n6_ := Aside0.mk (below_step (by repeat (first | (with_reducible first | exact HB.out | apply below_alloc | apply pw_below_drewN | apply below_drew1 | refine below_set ?_ GE101.out | refine below_set ?_ GE102.out | refine below_set ?_ GE143.out | refine below_set ?_ GE149.out) | exact HB.out)) hb); clear HO135; clear HO139; clear BK101; clear BK102; clear BK143; clear BK149; clear HB; have HO135 := n0_; have HO139 := n1_; have BK101 := n2_; have BK102 := n3_; have BK143 := n4_; have BK149 := n5_; have HB := n6_; clear n0_ n1_ n2_ n3_ n4_ n5_ n6_; (try clear hb); (try clear hb2); (try clear hk); (try clear hi)))
              go_ret
              exact ⟨by first | rfl | (simp [errW_none, errW_some] <;> rfl) | (simp [*, errW_none, errW_some] <;> rfl), by repeat (first | (with_reducible first | exact HB.out | apply below_alloc | apply pw_below_drewN | apply below_drew1 | refine below_set ?_ GE101.out | refine below_set ?_ GE102.out | refine below_set ?_ GE143.out | refine below_set ?_ GE149.out) | exact HB.out)⟩
            ·
             replace c124 := Bool.eq_false_iff.mpr c124
             subst c124
             have H1 : (some false) = some r := by rw [if_neg (show ¬ (false = true) by decide)] at H; exact H
             clear H
             have H := H1
             clear H1
             obtain rfl := Option.some.inj H
             obtain ⟨Ao130, co130, eo130⟩ := Kd.R_slice HO135.out
             subst eo130
             go_wp2_with (first | ((with_reducible refine gate_callee (f := 19) rfl ?_); refine goesL_ (some 135) rfl rfl Tryz.func19 (by kernel_rfl) rfl #[.slice Ao130 t132.length co130] rfl (by (try simp only [List.map_toArray, List.map_cons, List.map_nil]); first | done | rfl | (simp only [List.length_drop, List.length_take]; rfl)) ?_; (with_reducible refine (Ob.Gv.putTree.calls _ _ t132 t150 false _ ?side1 ?side2 A123.out (HTAB_.out _ (by first | exact Below.refl _ _ | (with_reducible exact Aside0.out (by assumption)) | repeat (first | (with_reducible exact Aside0.out (by assumption)) | apply below_alloc | apply pw_below_drewN | apply below_drew1 | (refine below_set ?_ ?_; rotate_left; (with_reducible exact Aside0.out (by assumption))))))).mono ?_); (case side1 => refine (Kd.R_reads' (e := 54) (base := w.heap.size) (ok := fun k_ => True) (n := t132.length) (c := co130) ?_).2.2; exact (by (with_reducible repeat (first | apply Kd.R_alloc | apply Kd.R_drewN | apply Kd.R_drew)); exact (Kd.R_mono (Kd.R_far (p := ⟨gb149, 3, none⟩) (Kd.R_far (p := ⟨gb149, 2, none⟩) (Kd.R_far (p := ⟨gb149, 1, none⟩) (Kd.R_far (p := ⟨gb149, 0, none⟩) (Kd.R_types HO135.out BK149.out (by decide)) (fun _ hk => hk.2) (.string t144)) (fun _ hk => hk.2) (.int .i64 t145)) (fun _ hk => hk.2) (.string t146)) (fun _ hk => hk.2) (.string t147)) (fun _ h_ => h_.1)))); (case side2 => exact (Kd.R_reads' HO135.out).2.1); rintro e w131 ⟨rfl, hb⟩; refine ⟨_, rfl, ?_⟩; have n0_ := Aside0.mk (Kd.R_below (by (with_reducible repeat (first | apply Kd.R_alloc | apply Kd.R_drewN | apply Kd.R_drew)); exact (Kd.R_mono (Kd.R_far (p := ⟨gb149, 3, none⟩) (Kd.R_far (p := ⟨gb149, 2, none⟩) (Kd.R_far (p := ⟨gb149, 1, none⟩) (Kd.R_far (p := ⟨gb149, 0, none⟩) (Kd.R_types HO135.out BK149.out (by decide)) (fun _ hk => hk.2) (.string t144)) (fun _ hk => hk.2) (.int .i64 t145)) (fun _ hk => hk.2) (.string t146)) (fun _ hk => hk.2) (.string t147)) (fun _ h_ => h_.1))) hb); have n1_ := Aside0.mk (Kd.R_below (by (with_reducible repeat (first | apply Kd.R_alloc | apply Kd.R_drewN | apply Kd.R_drew)); exact (Kd.R_mono (Kd.R_far (p := ⟨gb149, 3, none⟩) (Kd.R_far (p := ⟨gb149, 2, none⟩) (Kd.R_far (p := ⟨gb149, 1, none⟩) (Kd.R_far (p := ⟨gb149, 0, none⟩) (Kd.R_types HO139.out BK149.out (by decide)) (fun _ hk => hk.2) (.string t144)) (fun _ hk => hk.2) (.int .i64 t145)) (fun _ hk => hk.2) (.string t146)) (fun _ hk => hk.2) (.string t147)) (fun _ h_ => h_.1))) hb); have n2_ := Aside0.mk (blk_below (g := gb101) (o := .cells #[.string a1_0, .slice A1_1 l1_1.length c1_1, .string a1_2, .string a1_3] 40 (0, 0)) (by (with_reducible repeat (first | refine blk_drewN ?_ _ | refine blk_drew ?_ | refine blk_alloc ?_ _)); refine blk_far ?_ NB101_149.out _; (with_reducible repeat (first | refine blk_drewN ?_ _ | refine blk_drew ?_ | refine blk_alloc ?_ _)); refine blk_far ?_ NB101_149.out _; (with_reducible repeat (first | refine blk_drewN ?_ _ | refine blk_drew ?_ | refine blk_alloc ?_ _)); refine blk_far ?_ NB101_149.out _; (with_reducible repeat (first | refine blk_drewN ?_ _ | refine blk_drew ?_ | refine blk_alloc ?_ _)); refine blk_far ?_ NB101_149.out _; (with_reducible repeat (first | refine blk_drewN ?_ _ | refine blk_drew ?_ | refine blk_alloc ?_ _)); exact BK101.out) hb); have n3_ := Aside0.mk (blk_below (g := gb102) (o := .cells #[.string a2_0, .int .i64 a2_1, .string a2_2, .string a2_3] 42 (0, 0)) (by (with_reducible repeat (first | refine blk_drewN ?_ _ | refine blk_drew ?_ | refine blk_alloc ?_ _)); refine blk_far ?_ NB102_149.out _; (with_reducible repeat (first | refine blk_drewN ?_ _ | refine blk_drew ?_ | refine blk_alloc ?_ _)); refine blk_far ?_ NB102_149.out _; (with_reducible repeat (first | refine blk_drewN ?_ _ | refine blk_drew ?_ | refine blk_alloc ?_ _)); refine blk_far ?_ NB102_149.out _; (with_reducible repeat (first | refine blk_drewN ?_ _ | refine blk_drew ?_ | refine blk_alloc ?_ _)); refine blk_far ?_ NB102_149.out _; (with_reducible repeat (first | refine blk_drewN ?_ _ | refine blk_drew ?_ | refine blk_alloc ?_ _)); exact BK102.out) hb); have n4_ := Aside0.mk (blk_below (g := gb143) (o := .cells #[.string t136, .slice Ao115 t137.length co115, .string t140, .string t141] 40 (0, 0)) (by (with_reducible repeat (first | refine blk_drewN ?_ _ | refine blk_drew ?_ | refine blk_alloc ?_ _)); refine blk_far ?_ NB143_149.out _; (with_reducible repeat (first | refine blk_drewN ?_ _ | refine blk_drew ?_ | refine blk_alloc ?_ _)); refine blk_far ?_ NB143_149.out _; (with_reducible repeat (first | refine blk_drewN ?_ _ | refine blk_drew ?_ | refine blk_alloc ?_ _)); refine blk_far ?_ NB143_149.out _; (with_reducible repeat (first | refine blk_drewN ?_ _ | refine blk_drew ?_ | refine blk_alloc ?_ _)); refine blk_far ?_ NB143_149.out _; (with_reducible repeat (first | refine blk_drewN ?_ _ | refine blk_drew ?_ | refine blk_alloc ?_ _)); exact BK143.out) hb); have n5_ := Aside0.mk (blk_below (g := gb149) (o := .cells #[.string t144, .int .i64 t145, .string t146, .string t147] 42 (0, 0)) (by (with_reducible repeat (first | refine blk_drewN ?_ _ | refine blk_drew ?_ | refine blk_alloc ?_ _)); refine blk_put (cs := #[.string t144, .int .i64 t145, .string t146, .string (⟨#[]⟩ : ByteArray)]) ?_ 3 _ rfl; (with_reducible repeat (first | refine blk_drewN ?_ _ | refine blk_drew ?_ | refine blk_alloc ?_ _)); refine blk_put (cs := #[.string t144, .int .i64 t145, .string (⟨#[]⟩ : ByteArray), .string (⟨#[]⟩ : ByteArray)]) ?_ 2 _ rfl; (with_reducible repeat (first | refine blk_drewN ?_ _ | refine blk_drew ?_ | refine blk_alloc ?_ _)); refine blk_put (cs := #[.string t144, .int .i64 0, .string (⟨#[]⟩ : ByteArray), .string (⟨#[]⟩ : ByteArray)]) ?_ 1 _ rfl; (with_reducible repeat (first | refine blk_drewN ?_ _ | refine blk_drew ?_ | refine blk_alloc ?_ _)); refine blk_put (cs := #[.string (⟨#[]⟩ : ByteArray), .int .i64 0, .string (⟨#[]⟩ : ByteArray), .string (⟨#[]⟩ : ByteArray)]) ?_ 0 _ rfl; (with_reducible repeat (first | refine blk_drewN ?_ _ | refine blk_drew ?_ | refine blk_alloc ?_ _)); exact BK149.out) hb); have n6_ := Aside0.mk (below_step (by repeat (first | (with_reducible first | exact HB.out | apply below_alloc | apply pw_below_drewN | apply below_drew1 | refine below_set ?_ GE101.out | refine below_set ?_ GE102.out | refine below_set ?_ GE143.out | refine below_set ?_ GE149.out) | exact HB.out)) hb); clear HO135; clear HO139; clear BK101; clear BK102; clear BK143; clear BK149; clear HB; have HO135 := n0_; have HO139 := n1_; have BK101 := n2_; have BK102 := n3_; have BK143 := n4_; have BK149 := n5_; have HB := n6_; clear n0_ n1_ n2_ n3_ n4_ n5_ n6_; (try clear hb); (try clear hb2); (try clear hk); (try clear hi)))
             go_ret
             exact ⟨by first | rfl | (simp [errW_none, errW_some] <;> rfl) | (simp [*, errW_none, errW_some] <;> rfl), by repeat (first | (with_reducible first | exact HB.out | apply below_alloc | apply pw_below_drewN | apply below_drew1 | refine below_set ?_ GE101.out | refine below_set ?_ GE102.out | refine below_set ?_ GE143.out | refine below_set ?_ GE149.out) | exact HB.out)⟩
           ·
            replace c122 := Bool.eq_false_iff.mpr c122
            subst c122
            have H1 : (w04_ObjectBack.j4 kj77 a3 t103 false t142 t148 t136 t137 t140 t141 t144 t145 t146 t147) = some r := by rw [if_neg (show ¬ (false = true) by decide)] at H; exact H
            clear H
            have H := H1
            clear H1
            have H' := Aside0.mk H
            clear H
            go_wp2
            go_meet
            case rel => exact ⟨_, H', ⟨by have := HJ5.out; have := HJ30.out; have := HJ43.out; have := HJ77.out; first | omega | exact Nat.le_refl _⟩, ⟨by (with_reducible repeat (first | apply Kd.R_alloc | apply Kd.R_drewN | apply Kd.R_drew)); exact Kd.R_mono (Kd.R_far (p := ⟨gb149, 3, none⟩) (Kd.R_far (p := ⟨gb149, 2, none⟩) (Kd.R_far (p := ⟨gb149, 1, none⟩) (Kd.R_far (p := ⟨gb149, 0, none⟩) (Kd.R_types HO139.out BK149.out (by decide)) (fun _ hk => hk.2) (.string t144)) (fun _ hk => hk.2) (.int .i64 t145)) (fun _ hk => hk.2) (.string t146)) (fun _ hk => hk.2) (.string t147)) (fun _ hk => trivial)⟩, ⟨by (with_reducible repeat (first | refine blk_drewN ?_ _ | refine blk_drew ?_ | refine blk_alloc ?_ _)); refine blk_far ?_ NB101_149.out _; (with_reducible repeat (first | refine blk_drewN ?_ _ | refine blk_drew ?_ | refine blk_alloc ?_ _)); refine blk_far ?_ NB101_149.out _; (with_reducible repeat (first | refine blk_drewN ?_ _ | refine blk_drew ?_ | refine blk_alloc ?_ _)); refine blk_far ?_ NB101_149.out _; (with_reducible repeat (first | refine blk_drewN ?_ _ | refine blk_drew ?_ | refine blk_alloc ?_ _)); refine blk_far ?_ NB101_149.out _; (with_reducible repeat (first | refine blk_drewN ?_ _ | refine blk_drew ?_ | refine blk_alloc ?_ _)); exact BK101.out⟩, ⟨by (with_reducible repeat (first | refine blk_drewN ?_ _ | refine blk_drew ?_ | refine blk_alloc ?_ _)); refine blk_far ?_ NB102_149.out _; (with_reducible repeat (first | refine blk_drewN ?_ _ | refine blk_drew ?_ | refine blk_alloc ?_ _)); refine blk_far ?_ NB102_149.out _; (with_reducible repeat (first | refine blk_drewN ?_ _ | refine blk_drew ?_ | refine blk_alloc ?_ _)); refine blk_far ?_ NB102_149.out _; (with_reducible repeat (first | refine blk_drewN ?_ _ | refine blk_drew ?_ | refine blk_alloc ?_ _)); refine blk_far ?_ NB102_149.out _; (with_reducible repeat (first | refine blk_drewN ?_ _ | refine blk_drew ?_ | refine blk_alloc ?_ _)); exact BK102.out⟩, ⟨by (with_reducible repeat (first | refine blk_drewN ?_ _ | refine blk_drew ?_ | refine blk_alloc ?_ _)); refine blk_far ?_ NB143_149.out _; (with_reducible repeat (first | refine blk_drewN ?_ _ | refine blk_drew ?_ | refine blk_alloc ?_ _)); refine blk_far ?_ NB143_149.out _; (with_reducible repeat (first | refine blk_drewN ?_ _ | refine blk_drew ?_ | refine blk_alloc ?_ _)); refine blk_far ?_ NB143_149.out _; (with_reducible repeat (first | refine blk_drewN ?_ _ | refine blk_drew ?_ | refine blk_alloc ?_ _)); refine blk_far ?_ NB143_149.out _; (with_reducible repeat (first | refine blk_drewN ?_ _ | refine blk_drew ?_ | refine blk_alloc ?_ _)); exact BK143.out⟩, ⟨by (with_reducible repeat (first | refine blk_drewN ?_ _ | refine blk_drew ?_ | refine blk_alloc ?_ _)); refine blk_put (cs := #[.string t144, .int .i64 t145, .string t146, .string (⟨#[]⟩ : ByteArray)]) ?_ 3 _ rfl; (with_reducible repeat (first | refine blk_drewN ?_ _ | refine blk_drew ?_ | refine blk_alloc ?_ _)); refine blk_put (cs := #[.string t144, .int .i64 t145, .string (⟨#[]⟩ : ByteArray), .string (⟨#[]⟩ : ByteArray)]) ?_ 2 _ rfl; (with_reducible repeat (first | refine blk_drewN ?_ _ | refine blk_drew ?_ | refine blk_alloc ?_ _)); refine blk_put (cs := #[.string t144, .int .i64 0, .string (⟨#[]⟩ : ByteArray), .string (⟨#[]⟩ : ByteArray)]) ?_ 1 _ rfl; (with_reducible repeat (first | refine blk_drewN ?_ _ | refine blk_drew ?_ | refine blk_alloc ?_ _)); refine blk_put (cs := #[.string (⟨#[]⟩ : ByteArray), .int .i64 0, .string (⟨#[]⟩ : ByteArray), .string (⟨#[]⟩ : ByteArray)]) ?_ 0 _ rfl; (with_reducible repeat (first | refine blk_drewN ?_ _ | refine blk_drew ?_ | refine blk_alloc ?_ _)); exact BK149.out⟩, ⟨by repeat (first | (with_reducible first | exact HB.out | apply below_alloc | apply pw_below_drewN | apply below_drew1 | refine below_set ?_ GE101.out | refine below_set ?_ GE102.out | refine below_set ?_ GE143.out | refine below_set ?_ GE149.out) | exact HB.out)⟩⟩
          case rest =>
           clear HC108
           try clear c1
           try clear c2
           try clear p2
           try clear c3
           try clear c4
           try clear c5
           try clear c6
           try clear p6
           try clear c7
           try clear c8
           try clear c9
           try clear c10
           try clear c11
           try clear c12
           try clear c14
           try clear c16
           try clear c18
           try clear c19
           try clear c19b0
           try clear c19b1
           try clear c21
           try clear c25
           try clear c27
           try clear c29
           try clear c31
           try clear c33
           try clear c35
           try clear c37
           try clear c45
           try clear c48
           try clear c50
           try clear c52
           try clear c55
           try clear c56
           try clear c59
           try clear c64
           try clear p64
           try clear c65
           try clear c68
           try clear c73
           try clear c74
           try clear c79
           try clear c82
           try clear c84
           try clear c85
           try clear c85b0
           try clear c88
           try clear c89
           try clear c91
           try clear c95
           try clear c96
           try clear c98
           try clear c102
           try clear c103
           try clear c112
           try clear c113
           try clear c118
           try clear c119
           try clear c120
           try clear c122
           try clear c124
           try clear c125
           try clear c125b0
           try clear c125b1
           try clear hcz104_0
           try clear hcz104_1
           try clear hcz104_2
           try clear hcz104_3
           try clear hcz114_0
           try clear hcz114_1
           try clear hcz114_2
           try clear hcz114_3
           try clear hcz121_0
           try clear hcz121_1
           try clear hcz121_2
           try clear hcz121_3
           try clear hcz17_0
           try clear hcz17_1
           try clear hcz17_2
           try clear hcz17_3
           try clear hcz22_0
           try clear hcz22_1
           try clear hcz22_2
           try clear hcz22_3
           try clear hcz26_0
           try clear hcz26_1
           try clear hcz26_2
           try clear hcz26_3
           try clear hcz28_0
           try clear hcz28_1
           try clear hcz28_2
           try clear hcz28_3
           try clear hcz46_0
           try clear hcz46_1
           try clear hcz46_2
           try clear hcz46_3
           try clear hcz57_0
           try clear hcz57_1
           try clear hcz57_2
           try clear hcz57_3
           try clear hcz60_0
           try clear hcz60_1
           try clear hcz60_2
           try clear hcz60_3
           try clear hcz66_0
           try clear hcz66_1
           try clear hcz66_2
           try clear hcz66_3
           try clear hcz69_0
           try clear hcz69_1
           try clear hcz69_2
           try clear hcz69_3
           try clear hcz75_0
           try clear hcz75_1
           try clear hcz75_2
           try clear hcz75_3
           try clear hcz80_0
           try clear hcz80_1
           try clear hcz80_2
           try clear hcz80_3
           try clear hcz90_0
           try clear hcz90_1
           try clear hcz90_2
           try clear hcz90_3
           try clear hcz92_0
           try clear hcz92_1
           try clear hcz92_2
           try clear hcz92_3
           try clear hcz97_0
           try clear hcz97_1
           try clear hcz97_2
           try clear hcz97_3
           try clear hcz99_0
           try clear hcz99_1
           try clear hcz99_2
           try clear hcz99_3
           try clear hfz104_0
           try clear hfz104_1
           try clear hfz104_2
           try clear hfz104_3
           try clear hfz114_0
           try clear hfz114_1
           try clear hfz114_2
           try clear hfz114_3
           try clear hfz121_0
           try clear hfz121_1
           try clear hfz121_2
           try clear hfz121_3
           try clear hfz17_0
           try clear hfz17_1
           try clear hfz17_2
           try clear hfz17_3
           try clear hfz22_0
           try clear hfz22_1
           try clear hfz22_2
           try clear hfz22_3
           try clear hfz26_0
           try clear hfz26_1
           try clear hfz26_2
           try clear hfz26_3
           try clear hfz28_0
           try clear hfz28_1
           try clear hfz28_2
           try clear hfz28_3
           try clear hfz46_0
           try clear hfz46_1
           try clear hfz46_2
           try clear hfz46_3
           try clear hfz57_0
           try clear hfz57_1
           try clear hfz57_2
           try clear hfz57_3
           try clear hfz60_0
           try clear hfz60_1
           try clear hfz60_2
           try clear hfz60_3
           try clear hfz66_0
           try clear hfz66_1
           try clear hfz66_2
           try clear hfz66_3
           try clear hfz69_0
           try clear hfz69_1
           try clear hfz69_2
           try clear hfz69_3
           try clear hfz75_0
           try clear hfz75_1
           try clear hfz75_2
           try clear hfz75_3
           try clear hfz80_0
           try clear hfz80_1
           try clear hfz80_2
           try clear hfz80_3
           try clear hfz90_0
           try clear hfz90_1
           try clear hfz90_2
           try clear hfz90_3
           try clear hfz92_0
           try clear hfz92_1
           try clear hfz92_2
           try clear hfz92_3
           try clear hfz97_0
           try clear hfz97_1
           try clear hfz97_2
           try clear hfz97_3
           try clear hfz99_0
           try clear hfz99_1
           try clear hfz99_2
           try clear hfz99_3
           try clear p2
           try clear p6
           try clear p64
           obtain ⟨kq, HA, HJ107, HO_144001, BK101, BK102, BK143, BK149, HB⟩ := hcut
           cases kq with
           | zero => exact absurd HA.out (by simp [w04_ObjectBack.j4])
           | succ kj107 =>
            have H := HA.out
            clear HA
            simp only [w04_ObjectBack.j4] at H
            have HC132 := Aside0.mk H
            clear H
            go_upto_if 145 with (fail)
            go_cut [] (fun wc => ∃ (kq : Nat), Aside0 (w04_ObjectBack.j5 kq a3 t103 t133 t148 t144 t145 t146 t147 = some r) ∧ Aside0 (kq ≤ kj107) ∧ Aside0 (Kd.R Kd.string 9 wc w.heap.size (fun _ => True) (.slice Ao115 t137.length co115) t137) ∧ Aside0 (wc.heap[gb101]? = some (.cells #[.string a1_0, (.slice A1_1 l1_1.length c1_1), .string a1_2, .string a1_3] 40 (0, 0))) ∧ Aside0 (wc.heap[gb102]? = some (.cells #[.string a2_0, .int .i64 a2_1, .string a2_2, .string a2_3] 42 (0, 0))) ∧ Aside0 (wc.heap[gb143]? = some (.cells #[.string t136, (.slice Ao115 t137.length co115), .string t140, .string t141] 40 (0, 0))) ∧ Aside0 (wc.heap[gb149]? = some (.cells #[.string t144, .int .i64 t145, .string t146, .string t147] 42 (0, 0))) ∧ Aside0 (Below w.heap.size w wc))
            case first =>
             have H := HC132.out
             clear HC132
             by_cases c133 : t142 = true
             ·
              subst c133
              have H1 : ((Ob.Gv.putChange.f t136 t137 t140 t141).bind fun bt152 => (if bt152.2 = true then (if bt152.1.toList = a3.toList then (if t133 = true then (some false) else (if t148 = true then (some false) else (w04_ObjectBack.j5 kj107 a3 t103 t133 t148 t144 t145 t146 t147))) else (some false)) else (some false))) = some r := by rw [if_pos rfl] at H; exact H
              clear H
              have H := H1
              clear H1
              replace H := Option.bind_eq_some_iff.mp H
              obtain ⟨⟨t152, t153⟩, A1340, H⟩ := H
              replace H : (if t153 = true then (if t152.toList = a3.toList then (if t133 = true then (some false) else (if t148 = true then (some false) else (w04_ObjectBack.j5 kj107 a3 t103 t133 t148 t144 t145 t146 t147))) else (some false)) else (some false)) = some r := H
              have A134 := Aside0.mk A1340
              clear A1340
              by_cases c135 : t153 = true
              ·
               subst c135
               have H1 : (if t152.toList = a3.toList then (if t133 = true then (some false) else (if t148 = true then (some false) else (w04_ObjectBack.j5 kj107 a3 t103 t133 t148 t144 t145 t146 t147))) else (some false)) = some r := by rw [if_pos rfl] at H; exact H
               clear H
               have H := H1
               clear H1
               by_cases c136 : t152.toList = a3.toList
               ·
                rw [if_pos c136] at H
                have c136b0 : (t152.toList == a3.toList) = true := beq_iff_eq.mpr c136
                have c136b1 : (t152.toList != a3.toList) = false := bne_eq_false_iff_eq.mpr c136
                clear c136
                (first | rw [c136b0] | (simp only [i64_w, i32_w]; rw [c136b0]) | skip)
                by_cases c137 : t133 = true
                ·
                 subst c137
                 have H1 : (some false) = some r := by rw [if_pos rfl] at H; exact H
                 clear H
                 have H := H1
                 clear H1
                 obtain rfl := Option.some.inj H
                 have hnb138 := NB143_101.out
                 have hnc138 := NB101_143.out
                 have hnb139 := NB143_102.out
                 have hnc139 := NB102_143.out
                 have hnb140 := NB143_149.out
                 have hnc140 := NB149_143.out
                 have hcz141_0 : wc.cell? ⟨gb143, 0, none⟩ = some (.string t136) := (blk_cell BK143.out 0).trans rfl
                 have hcz141_1 : wc.cell? ⟨gb143, 1, none⟩ = some (.slice Ao115 t137.length co115) := (blk_cell BK143.out 1).trans rfl
                 have hcz141_2 : wc.cell? ⟨gb143, 2, none⟩ = some (.string t140) := (blk_cell BK143.out 2).trans rfl
                 have hcz141_3 : wc.cell? ⟨gb143, 3, none⟩ = some (.string t141) := (blk_cell BK143.out 3).trans rfl
                 have hfz141_0 := blk_frozen BK143.out 0
                 have hfz141_1 := blk_frozen BK143.out 1
                 have hfz141_2 := blk_frozen BK143.out 2
                 have hfz141_3 := blk_frozen BK143.out 3
                 go_wp2_with (first | ((with_reducible refine gate_callee (f := 25) rfl ?_); refine goesL_ (some 148) rfl rfl Tryz.func25 (by kernel_rfl) rfl #[.agg #[.string t136, .slice Ao115 t137.length co115, .string t140, .string t141]] rfl (by (try simp only [List.map_toArray, List.map_cons, List.map_nil]); first | done | rfl | (simp only [List.length_drop, List.length_take]; rfl)) ?_; (with_reducible refine (Ob.Gv.putChange.calls t136 _ _ t137 t140 t141 t152 true _ ?side1 ?side2 A134.out).mono ?_); (case side1 => repeat (first | exact (Kd.R_reads' HO_144001.out).2.2 | (with_reducible refine Kd.C_alloc ?_ _) | (with_reducible refine Kd.C_drewN ?_ _) | (with_reducible refine Kd.C_drew ?_))); (case side2 => exact (Kd.R_reads' HO_144001.out).2.1); rintro e w142 ⟨rfl, hb⟩; refine ⟨_, rfl, ?_⟩; have n0_ := Aside0.mk (Kd.R_below (by (with_reducible repeat (first | apply Kd.R_alloc | apply Kd.R_drewN | apply Kd.R_drew)); exact HO_144001.out) hb); have n1_ := Aside0.mk (blk_below (g := gb101) (o := .cells #[.string a1_0, .slice A1_1 l1_1.length c1_1, .string a1_2, .string a1_3] 40 (0, 0)) (by (with_reducible repeat (first | refine blk_drewN ?_ _ | refine blk_drew ?_ | refine blk_alloc ?_ _)); exact BK101.out) hb); have n2_ := Aside0.mk (blk_below (g := gb102) (o := .cells #[.string a2_0, .int .i64 a2_1, .string a2_2, .string a2_3] 42 (0, 0)) (by (with_reducible repeat (first | refine blk_drewN ?_ _ | refine blk_drew ?_ | refine blk_alloc ?_ _)); exact BK102.out) hb); have n3_ := Aside0.mk (blk_below (g := gb143) (o := .cells #[.string t136, .slice Ao115 t137.length co115, .string t140, .string t141] 40 (0, 0)) (by (with_reducible repeat (first | refine blk_drewN ?_ _ | refine blk_drew ?_ | refine blk_alloc ?_ _)); exact BK143.out) hb); have n4_ := Aside0.mk (blk_below (g := gb149) (o := .cells #[.string t144, .int .i64 t145, .string t146, .string t147] 42 (0, 0)) (by (with_reducible repeat (first | refine blk_drewN ?_ _ | refine blk_drew ?_ | refine blk_alloc ?_ _)); exact BK149.out) hb); have n5_ := Aside0.mk (below_step (by repeat (first | (with_reducible first | exact HB.out | apply below_alloc | apply pw_below_drewN | apply below_drew1 | refine below_set ?_ GE101.out | refine below_set ?_ GE102.out | refine below_set ?_ GE143.out | refine below_set ?_ GE149.out) | exact HB.out)) hb); clear HO_144001; clear BK101; clear BK102; clear BK143; clear BK149; clear HB; have HO_144001 := n0_; have BK101 := n1_; have BK102 := n2_; have BK143 := n3_; have BK149 := n4_; have HB := n5_; clear n0_ n1_ n2_ n3_ n4_ n5_; (try clear hb); (try clear hb2); (try clear hk); (try clear hi)))
                 go_ret
                 exact ⟨by first | rfl | (simp [errW_none, errW_some] <;> rfl) | (simp [*, errW_none, errW_some] <;> rfl), by repeat (first | (with_reducible first | exact HB.out | apply below_alloc | apply pw_below_drewN | apply below_drew1 | refine below_set ?_ GE101.out | refine below_set ?_ GE102.out | refine below_set ?_ GE143.out | refine below_set ?_ GE149.out) | exact HB.out)⟩
                ·
                 replace c137 := Bool.eq_false_iff.mpr c137
                 subst c137
                 have H1 : (if t148 = true then (some false) else (w04_ObjectBack.j5 kj107 a3 t103 false t148 t144 t145 t146 t147)) = some r := by rw [if_neg (show ¬ (false = true) by decide)] at H; exact H
                 clear H
                 have H := H1
                 clear H1
                 by_cases c143 : t148 = true
                 ·
                  subst c143
                  have H1 : (some false) = some r := by rw [if_pos rfl] at H; exact H
                  clear H
                  have H := H1
                  clear H1
                  obtain rfl := Option.some.inj H
                  have hnb144 := NB143_101.out
                  have hnc144 := NB101_143.out
                  have hnb145 := NB143_102.out
                  have hnc145 := NB102_143.out
                  have hnb146 := NB143_149.out
                  have hnc146 := NB149_143.out
                  have hcz147_0 : wc.cell? ⟨gb143, 0, none⟩ = some (.string t136) := (blk_cell BK143.out 0).trans rfl
                  have hcz147_1 : wc.cell? ⟨gb143, 1, none⟩ = some (.slice Ao115 t137.length co115) := (blk_cell BK143.out 1).trans rfl
                  have hcz147_2 : wc.cell? ⟨gb143, 2, none⟩ = some (.string t140) := (blk_cell BK143.out 2).trans rfl
                  have hcz147_3 : wc.cell? ⟨gb143, 3, none⟩ = some (.string t141) := (blk_cell BK143.out 3).trans rfl
                  have hfz147_0 := blk_frozen BK143.out 0
                  have hfz147_1 := blk_frozen BK143.out 1
                  have hfz147_2 := blk_frozen BK143.out 2
                  have hfz147_3 := blk_frozen BK143.out 3
                  go_wp2_with (first | ((with_reducible refine gate_callee (f := 25) rfl ?_); refine goesL_ (some 148) rfl rfl Tryz.func25 (by kernel_rfl) rfl #[.agg #[.string t136, .slice Ao115 t137.length co115, .string t140, .string t141]] rfl (by (try simp only [List.map_toArray, List.map_cons, List.map_nil]); first | done | rfl | (simp only [List.length_drop, List.length_take]; rfl)) ?_; (with_reducible refine (Ob.Gv.putChange.calls t136 _ _ t137 t140 t141 t152 true _ ?side1 ?side2 A134.out).mono ?_); (case side1 => repeat (first | exact (Kd.R_reads' HO_144001.out).2.2 | (with_reducible refine Kd.C_alloc ?_ _) | (with_reducible refine Kd.C_drewN ?_ _) | (with_reducible refine Kd.C_drew ?_))); (case side2 => exact (Kd.R_reads' HO_144001.out).2.1); rintro e w148 ⟨rfl, hb⟩; refine ⟨_, rfl, ?_⟩; have n0_ := Aside0.mk (Kd.R_below (by (with_reducible repeat (first | apply Kd.R_alloc | apply Kd.R_drewN | apply Kd.R_drew)); exact HO_144001.out) hb); have n1_ := Aside0.mk (blk_below (g := gb101) (o := .cells #[.string a1_0, .slice A1_1 l1_1.length c1_1, .string a1_2, .string a1_3] 40 (0, 0)) (by (with_reducible repeat (first | refine blk_drewN ?_ _ | refine blk_drew ?_ | refine blk_alloc ?_ _)); exact BK101.out) hb); have n2_ := Aside0.mk (blk_below (g := gb102) (o := .cells #[.string a2_0, .int .i64 a2_1, .string a2_2, .string a2_3] 42 (0, 0)) (by (with_reducible repeat (first | refine blk_drewN ?_ _ | refine blk_drew ?_ | refine blk_alloc ?_ _)); exact BK102.out) hb); have n3_ := Aside0.mk (blk_below (g := gb143) (o := .cells #[.string t136, .slice Ao115 t137.length co115, .string t140, .string t141] 40 (0, 0)) (by (with_reducible repeat (first | refine blk_drewN ?_ _ | refine blk_drew ?_ | refine blk_alloc ?_ _)); exact BK143.out) hb); have n4_ := Aside0.mk (blk_below (g := gb149) (o := .cells #[.string t144, .int .i64 t145, .string t146, .string t147] 42 (0, 0)) (by (with_reducible repeat (first | refine blk_drewN ?_ _ | refine blk_drew ?_ | refine blk_alloc ?_ _)); exact BK149.out) hb); have n5_ := Aside0.mk (below_step (by repeat (first | (with_reducible first | exact HB.out | apply below_alloc | apply pw_below_drewN | apply below_drew1 | refine below_set ?_ GE101.out | refine below_set ?_ GE102.out | refine below_set ?_ GE143.out | refine below_set ?_ GE149.out) | exact HB.out)) hb); clear HO_144001; clear BK101; clear BK102; clear BK143; clear BK149; clear HB; have HO_144001 := n0_; have BK101 := n1_; have BK102 := n2_; have BK143 := n3_; have BK149 := n4_; have HB := n5_; clear n0_ n1_ n2_ n3_ n4_ n5_; (try clear hb); (try clear hb2); (try clear hk); (try clear hi)))
                  go_ret
                  exact ⟨by first | rfl | (simp [errW_none, errW_some] <;> rfl) | (simp [*, errW_none, errW_some] <;> rfl), by repeat (first | (with_reducible first | exact HB.out | apply below_alloc | apply pw_below_drewN | apply below_drew1 | refine below_set ?_ GE101.out | refine below_set ?_ GE102.out | refine below_set ?_ GE143.out | refine below_set ?_ GE149.out) | exact HB.out)⟩
                 ·
                  replace c143 := Bool.eq_false_iff.mpr c143
                  subst c143
                  have H1 : (w04_ObjectBack.j5 kj107 a3 t103 false false t144 t145 t146 t147) = some r := by rw [if_neg (show ¬ (false = true) by decide)] at H; exact H
                  clear H
                  have H := H1
                  clear H1
                  have H' := Aside0.mk H
                  clear H
                  have hnb149 := NB143_101.out
                  have hnc149 := NB101_143.out
                  have hnb150 := NB143_102.out
                  have hnc150 := NB102_143.out
                  have hnb151 := NB143_149.out
                  have hnc151 := NB149_143.out
                  have hcz152_0 : wc.cell? ⟨gb143, 0, none⟩ = some (.string t136) := (blk_cell BK143.out 0).trans rfl
                  have hcz152_1 : wc.cell? ⟨gb143, 1, none⟩ = some (.slice Ao115 t137.length co115) := (blk_cell BK143.out 1).trans rfl
                  have hcz152_2 : wc.cell? ⟨gb143, 2, none⟩ = some (.string t140) := (blk_cell BK143.out 2).trans rfl
                  have hcz152_3 : wc.cell? ⟨gb143, 3, none⟩ = some (.string t141) := (blk_cell BK143.out 3).trans rfl
                  have hfz152_0 := blk_frozen BK143.out 0
                  have hfz152_1 := blk_frozen BK143.out 1
                  have hfz152_2 := blk_frozen BK143.out 2
                  have hfz152_3 := blk_frozen BK143.out 3
                  go_wp2_with (first | ((with_reducible refine gate_callee (f := 25) rfl ?_); refine goesL_ (some 148) rfl rfl Tryz.func25 (by kernel_rfl) rfl #[.agg #[.string t136, .slice Ao115 t137.length co115, .string t140, .string t141]] rfl (by (try simp only [List.map_toArray, List.map_cons, List.map_nil]); first | done | rfl | (simp only [List.length_drop, List.length_take]; rfl)) ?_; (with_reducible refine (Ob.Gv.putChange.calls t136 _ _ t137 t140 t141 t152 true _ ?side1 ?side2 A134.out).mono ?_); (case side1 => repeat (first | exact (Kd.R_reads' HO_144001.out).2.2 | (with_reducible refine Kd.C_alloc ?_ _) | (with_reducible refine Kd.C_drewN ?_ _) | (with_reducible refine Kd.C_drew ?_))); (case side2 => exact (Kd.R_reads' HO_144001.out).2.1); rintro e w153 ⟨rfl, hb⟩; refine ⟨_, rfl, ?_⟩; have n0_ := Aside0.mk (Kd.R_below (by (with_reducible repeat (first | apply Kd.R_alloc | apply Kd.R_drewN | apply Kd.R_drew)); exact HO_144001.out) hb); have n1_ := Aside0.mk (blk_below (g := gb101) (o := .cells #[.string a1_0, .slice A1_1 l1_1.length c1_1, .string a1_2, .string a1_3] 40 (0, 0)) (by (with_reducible repeat (first | refine blk_drewN ?_ _ | refine blk_drew ?_ | refine blk_alloc ?_ _)); exact BK101.out) hb); have n2_ := Aside0.mk (blk_below (g := gb102) (o := .cells #[.string a2_0, .int .i64 a2_1, .string a2_2, .string a2_3] 42 (0, 0)) (by (with_reducible repeat (first | refine blk_drewN ?_ _ | refine blk_drew ?_ | refine blk_alloc ?_ _)); exact BK102.out) hb); have n3_ := Aside0.mk (blk_below (g := gb143) (o := .cells #[.string t136, .slice Ao115 t137.length co115, .string t140, .string t141] 40 (0, 0)) (by (with_reducible repeat (first | refine blk_drewN ?_ _ | refine blk_drew ?_ | refine blk_alloc ?_ _)); exact BK143.out) hb); have n4_ := Aside0.mk (blk_below (g := gb149) (o := .cells #[.string t144, .int .i64 t145, .string t146, .string t147] 42 (0, 0)) (by (with_reducible repeat (first | refine blk_drewN ?_ _ | refine blk_drew ?_ | refine blk_alloc ?_ _)); exact BK149.out) hb); have n5_ := Aside0.mk (below_step (by repeat (first | (with_reducible first | exact HB.out | apply below_alloc | apply pw_below_drewN | apply below_drew1 | refine below_set ?_ GE101.out | refine below_set ?_ GE102.out | refine below_set ?_ GE143.out | refine below_set ?_ GE149.out) | exact HB.out)) hb); clear HO_144001; clear BK101; clear BK102; clear BK143; clear BK149; clear HB; have HO_144001 := n0_; have BK101 := n1_; have BK102 := n2_; have BK143 := n3_; have BK149 := n4_; have HB := n5_; clear n0_ n1_ n2_ n3_ n4_ n5_; (try clear hb); (try clear hb2); (try clear hk); (try clear hi)))
                  go_meet
                  case rel => exact ⟨_, H', ⟨by have := HJ5.out; have := HJ30.out; have := HJ43.out; have := HJ77.out; have := HJ107.out; first | omega | exact Nat.le_refl _⟩, ⟨by (with_reducible repeat (first | apply Kd.R_alloc | apply Kd.R_drewN | apply Kd.R_drew)); exact HO_144001.out⟩, ⟨by (with_reducible repeat (first | refine blk_drewN ?_ _ | refine blk_drew ?_ | refine blk_alloc ?_ _)); exact BK101.out⟩, ⟨by (with_reducible repeat (first | refine blk_drewN ?_ _ | refine blk_drew ?_ | refine blk_alloc ?_ _)); exact BK102.out⟩, ⟨by (with_reducible repeat (first | refine blk_drewN ?_ _ | refine blk_drew ?_ | refine blk_alloc ?_ _)); exact BK143.out⟩, ⟨by (with_reducible repeat (first | refine blk_drewN ?_ _ | refine blk_drew ?_ | refine blk_alloc ?_ _)); exact BK149.out⟩, ⟨by repeat (first | (with_reducible first | exact HB.out | apply below_alloc | apply pw_below_drewN | apply below_drew1 | refine below_set ?_ GE101.out | refine below_set ?_ GE102.out | refine below_set ?_ GE143.out | refine below_set ?_ GE149.out) | exact HB.out)⟩⟩
               ·
                rw [if_neg c136] at H
                have c136b0 : (t152.toList == a3.toList) = false := beq_eq_false_iff_ne.mpr c136
                have c136b1 : (t152.toList != a3.toList) = true := bne_iff_ne.mpr c136
                (first | rw [c136b0] | (simp only [i64_w, i32_w]; rw [c136b0]) | skip)
                obtain rfl := Option.some.inj H
                have hnb154 := NB143_101.out
                have hnc154 := NB101_143.out
                have hnb155 := NB143_102.out
                have hnc155 := NB102_143.out
                have hnb156 := NB143_149.out
                have hnc156 := NB149_143.out
                have hcz157_0 : wc.cell? ⟨gb143, 0, none⟩ = some (.string t136) := (blk_cell BK143.out 0).trans rfl
                have hcz157_1 : wc.cell? ⟨gb143, 1, none⟩ = some (.slice Ao115 t137.length co115) := (blk_cell BK143.out 1).trans rfl
                have hcz157_2 : wc.cell? ⟨gb143, 2, none⟩ = some (.string t140) := (blk_cell BK143.out 2).trans rfl
                have hcz157_3 : wc.cell? ⟨gb143, 3, none⟩ = some (.string t141) := (blk_cell BK143.out 3).trans rfl
                have hfz157_0 := blk_frozen BK143.out 0
                have hfz157_1 := blk_frozen BK143.out 1
                have hfz157_2 := blk_frozen BK143.out 2
                have hfz157_3 := blk_frozen BK143.out 3
                go_wp2_with (first | ((with_reducible refine gate_callee (f := 25) rfl ?_); refine goesL_ (some 148) rfl rfl Tryz.func25 (by kernel_rfl) rfl #[.agg #[.string t136, .slice Ao115 t137.length co115, .string t140, .string t141]] rfl (by (try simp only [List.map_toArray, List.map_cons, List.map_nil]); first | done | rfl | (simp only [List.length_drop, List.length_take]; rfl)) ?_; (with_reducible refine (Ob.Gv.putChange.calls t136 _ _ t137 t140 t141 t152 true _ ?side1 ?side2 A134.out).mono ?_); (case side1 => repeat (first | exact (Kd.R_reads' HO_144001.out).2.2 | (with_reducible refine Kd.C_alloc ?_ _) | (with_reducible refine Kd.C_drewN ?_ _) | (with_reducible refine Kd.C_drew ?_))); (case side2 => exact (Kd.R_reads' HO_144001.out).2.1); rintro e w158 ⟨rfl, hb⟩; refine ⟨_, rfl, ?_⟩; have n0_ := Aside0.mk (Kd.R_below (by (with_reducible repeat (first | apply Kd.R_alloc | apply Kd.R_drewN | apply Kd.R_drew)); exact HO_144001.out) hb); have n1_ := Aside0.mk (blk_below (g := gb101) (o := .cells #[.string a1_0, .slice A1_1 l1_1.length c1_1, .string a1_2, .string a1_3] 40 (0, 0)) (by (with_reducible repeat (first | refine blk_drewN ?_ _ | refine blk_drew ?_ | refine blk_alloc ?_ _)); exact BK101.out) hb); have n2_ := Aside0.mk (blk_below (g := gb102) (o := .cells #[.string a2_0, .int .i64 a2_1, .string a2_2, .string a2_3] 42 (0, 0)) (by (with_reducible repeat (first | refine blk_drewN ?_ _ | refine blk_drew ?_ | refine blk_alloc ?_ _)); exact BK102.out) hb); have n3_ := Aside0.mk (blk_below (g := gb143) (o := .cells #[.string t136, .slice Ao115 t137.length co115, .string t140, .string t141] 40 (0, 0)) (by (with_reducible repeat (first | refine blk_drewN ?_ _ | refine blk_drew ?_ | refine blk_alloc ?_ _)); exact BK143.out) hb); have n4_ := Aside0.mk (blk_below (g := gb149) (o := .cells #[.string t144, .int .i64 t145, .string t146, .string t147] 42 (0, 0)) (by (with_reducible repeat (first | refine blk_drewN ?_ _ | refine blk_drew ?_ | refine blk_alloc ?_ _)); exact BK149.out) hb); have n5_ := Aside0.mk (below_step (by repeat (first | (with_reducible first | exact HB.out | apply below_alloc | apply pw_below_drewN | apply below_drew1 | refine below_set ?_ GE101.out | refine below_set ?_ GE102.out | refine below_set ?_ GE143.out | refine below_set ?_ GE149.out) | exact HB.out)) hb); clear HO_144001; clear BK101; clear BK102; clear BK143; clear BK149; clear HB; have HO_144001 := n0_; have BK101 := n1_; have BK102 := n2_; have BK143 := n3_; have BK149 := n4_; have HB := n5_; clear n0_ n1_ n2_ n3_ n4_ n5_; (try clear hb); (try clear hb2); (try clear hk); (try clear hi)))
                go_ret
                exact ⟨by first | rfl | (simp [errW_none, errW_some] <;> rfl) | (simp [*, errW_none, errW_some] <;> rfl), by repeat (first | (with_reducible first | exact HB.out | apply below_alloc | apply pw_below_drewN | apply below_drew1 | refine below_set ?_ GE101.out | refine below_set ?_ GE102.out | refine below_set ?_ GE143.out | refine below_set ?_ GE149.out) | exact HB.out)⟩
              ·
               replace c135 := Bool.eq_false_iff.mpr c135
               subst c135
               have H1 : (some false) = some r := by rw [if_neg (show ¬ (false = true) by decide)] at H; exact H
               clear H
               have H := H1
               clear H1
               obtain rfl := Option.some.inj H
               have hnb159 := NB143_101.out
               have hnc159 := NB101_143.out
               have hnb160 := NB143_102.out
               have hnc160 := NB102_143.out
               have hnb161 := NB143_149.out
               have hnc161 := NB149_143.out
               have hcz162_0 : wc.cell? ⟨gb143, 0, none⟩ = some (.string t136) := (blk_cell BK143.out 0).trans rfl
               have hcz162_1 : wc.cell? ⟨gb143, 1, none⟩ = some (.slice Ao115 t137.length co115) := (blk_cell BK143.out 1).trans rfl
               have hcz162_2 : wc.cell? ⟨gb143, 2, none⟩ = some (.string t140) := (blk_cell BK143.out 2).trans rfl
               have hcz162_3 : wc.cell? ⟨gb143, 3, none⟩ = some (.string t141) := (blk_cell BK143.out 3).trans rfl
               have hfz162_0 := blk_frozen BK143.out 0
               have hfz162_1 := blk_frozen BK143.out 1
               have hfz162_2 := blk_frozen BK143.out 2
               have hfz162_3 := blk_frozen BK143.out 3
               go_wp2_with (first | ((with_reducible refine gate_callee (f := 25) rfl ?_); refine goesL_ (some 148) rfl rfl Tryz.func25 (by kernel_rfl) rfl #[.agg #[.string t136, .slice Ao115 t137.length co115, .string t140, .string t141]] rfl (by (try simp only [List.map_toArray, List.map_cons, List.map_nil]); first | done | rfl | (simp only [List.length_drop, List.length_take]; rfl)) ?_; (with_reducible refine (Ob.Gv.putChange.calls t136 _ _ t137 t140 t141 t152 false _ ?side1 ?side2 A134.out).mono ?_); (case side1 => repeat (first | exact (Kd.R_reads' HO_144001.out).2.2 | (with_reducible refine Kd.C_alloc ?_ _) | (with_reducible refine Kd.C_drewN ?_ _) | (with_reducible refine Kd.C_drew ?_))); (case side2 => exact (Kd.R_reads' HO_144001.out).2.1); rintro e w163 ⟨rfl, hb⟩; refine ⟨_, rfl, ?_⟩; have n0_ := Aside0.mk (Kd.R_below (by (with_reducible repeat (first | apply Kd.R_alloc | apply Kd.R_drewN | apply Kd.R_drew)); exact HO_144001.out) hb); have n1_ := Aside0.mk (blk_below (g := gb101) (o := .cells #[.string a1_0, .slice A1_1 l1_1.length c1_1, .string a1_2, .string a1_3] 40 (0, 0)) (by (with_reducible repeat (first | refine blk_drewN ?_ _ | refine blk_drew ?_ | refine blk_alloc ?_ _)); exact BK101.out) hb); have n2_ := Aside0.mk (blk_below (g := gb102) (o := .cells #[.string a2_0, .int .i64 a2_1, .string a2_2, .string a2_3] 42 (0, 0)) (by (with_reducible repeat (first | refine blk_drewN ?_ _ | refine blk_drew ?_ | refine blk_alloc ?_ _)); exact BK102.out) hb); have n3_ := Aside0.mk (blk_below (g := gb143) (o := .cells #[.string t136, .slice Ao115 t137.length co115, .string t140, .string t141] 40 (0, 0)) (by (with_reducible repeat (first | refine blk_drewN ?_ _ | refine blk_drew ?_ | refine blk_alloc ?_ _)); exact BK143.out) hb); have n4_ := Aside0.mk (blk_below (g := gb149) (o := .cells #[.string t144, .int .i64 t145, .string t146, .string t147] 42 (0, 0)) (by (with_reducible repeat (first | refine blk_drewN ?_ _ | refine blk_drew ?_ | refine blk_alloc ?_ _)); exact BK149.out) hb); have n5_ := Aside0.mk (below_step (by repeat (first | (with_reducible first | exact HB.out | apply below_alloc | apply pw_below_drewN | apply below_drew1 | refine below_set ?_ GE101.out | refine below_set ?_ GE102.out | refine below_set ?_ GE143.out | refine below_set ?_ GE149.out) | exact HB.out)) hb); clear HO_144001; clear BK101; clear BK102; clear BK143; clear BK149; clear HB; have HO_144001 := n0_; have BK101 := n1_; have BK102 := n2_; have BK143 := n3_; have BK149 := n4_; have HB := n5_; clear n0_ n1_ n2_ n3_ n4_ n5_; (try clear hb); (try clear hb2); (try clear hk); (try clear hi)))
               go_ret
               exact ⟨by first | rfl | (simp [errW_none, errW_some] <;> rfl) | (simp [*, errW_none, errW_some] <;> rfl), by repeat (first | (with_reducible first | exact HB.out | apply below_alloc | apply pw_below_drewN | apply below_drew1 | refine below_set ?_ GE101.out | refine below_set ?_ GE102.out | refine below_set ?_ GE143.out | refine below_set ?_ GE149.out) | exact HB.out)⟩
             ·
              replace c133 := Bool.eq_false_iff.mpr c133
              subst c133
              have H1 : (w04_ObjectBack.j5 kj107 a3 t103 t133 t148 t144 t145 t146 t147) = some r := by rw [if_neg (show ¬ (false = true) by decide)] at H; exact H
              clear H
              have H := H1
              clear H1
              have H' := Aside0.mk H
              clear H
              go_wp2
              go_meet
              case rel => exact ⟨_, H', ⟨by have := HJ5.out; have := HJ30.out; have := HJ43.out; have := HJ77.out; have := HJ107.out; first | omega | exact Nat.le_refl _⟩, ⟨by (with_reducible repeat (first | apply Kd.R_alloc | apply Kd.R_drewN | apply Kd.R_drew)); exact HO_144001.out⟩, ⟨by (with_reducible repeat (first | refine blk_drewN ?_ _ | refine blk_drew ?_ | refine blk_alloc ?_ _)); exact BK101.out⟩, ⟨by (with_reducible repeat (first | refine blk_drewN ?_ _ | refine blk_drew ?_ | refine blk_alloc ?_ _)); exact BK102.out⟩, ⟨by (with_reducible repeat (first | refine blk_drewN ?_ _ | refine blk_drew ?_ | refine blk_alloc ?_ _)); exact BK143.out⟩, ⟨by (with_reducible repeat (first | refine blk_drewN ?_ _ | refine blk_drew ?_ | refine blk_alloc ?_ _)); exact BK149.out⟩, ⟨by repeat (first | (with_reducible first | exact HB.out | apply below_alloc | apply pw_below_drewN | apply below_drew1 | refine below_set ?_ GE101.out | refine below_set ?_ GE102.out | refine below_set ?_ GE143.out | refine below_set ?_ GE149.out) | exact HB.out)⟩⟩
            case rest =>
             clear HC132
             try clear c1
             try clear c2
             try clear p2
             try clear c3
             try clear c4
             try clear c5
             try clear c6
             try clear p6
             try clear c7
             try clear c8
             try clear c9
             try clear c10
             try clear c11
             try clear c12
             try clear c13
             try clear c14
             try clear c15
             try clear c16
             try clear c18
             try clear c19
             try clear c19b0
             try clear c19b1
             try clear c21
             try clear c25
             try clear c27
             try clear c29
             try clear c31
             try clear c33
             try clear c35
             try clear c37
             try clear c45
             try clear c48
             try clear c50
             try clear c52
             try clear c55
             try clear c56
             try clear c59
             try clear c64
             try clear p64
             try clear c65
             try clear c68
             try clear c73
             try clear c74
             try clear c79
             try clear c82
             try clear c84
             try clear c85
             try clear c85b0
             try clear c88
             try clear c89
             try clear c91
             try clear c95
             try clear c96
             try clear c98
             try clear c102
             try clear c103
             try clear c112
             try clear c113
             try clear c118
             try clear c119
             try clear c120
             try clear c122
             try clear c124
             try clear c125
             try clear c125b0
             try clear c125b1
             try clear c133
             try clear c135
             try clear c136
             try clear c136b0
             try clear c136b1
             try clear c137
             try clear c138
             try clear c139
             try clear c140
             try clear c143
             try clear c144
             try clear c145
             try clear c146
             try clear c149
             try clear c150
             try clear c151
             try clear c154
             try clear c155
             try clear c156
             try clear c159
             try clear c160
             try clear c161
             try clear hcz104_0
             try clear hcz104_1
             try clear hcz104_2
             try clear hcz104_3
             try clear hcz114_0
             try clear hcz114_1
             try clear hcz114_2
             try clear hcz114_3
             try clear hcz121_0
             try clear hcz121_1
             try clear hcz121_2
             try clear hcz121_3
             try clear hcz141_0
             try clear hcz141_1
             try clear hcz141_2
             try clear hcz141_3
             try clear hcz147_0
             try clear hcz147_1
             try clear hcz147_2
             try clear hcz147_3
             try clear hcz152_0
             try clear hcz152_1
             try clear hcz152_2
             try clear hcz152_3
             try clear hcz157_0
             try clear hcz157_1
             try clear hcz157_2
             try clear hcz157_3
             try clear hcz162_0
             try clear hcz162_1
             try clear hcz162_2
             try clear hcz162_3
             try clear hcz17_0
             try clear hcz17_1
             try clear hcz17_2
             try clear hcz17_3
             try clear hcz22_0
             try clear hcz22_1
             try clear hcz22_2
             try clear hcz22_3
             try clear hcz26_0
             try clear hcz26_1
             try clear hcz26_2
             try clear hcz26_3
             try clear hcz28_0
             try clear hcz28_1
             try clear hcz28_2
             try clear hcz28_3
             try clear hcz46_0
             try clear hcz46_1
             try clear hcz46_2
             try clear hcz46_3
             try clear hcz57_0
             try clear hcz57_1
             try clear hcz57_2
             try clear hcz57_3
             try clear hcz60_0
             try clear hcz60_1
             try clear hcz60_2
             try clear hcz60_3
             try clear hcz66_0
             try clear hcz66_1
             try clear hcz66_2
             try clear hcz66_3
             try clear hcz69_0
             try clear hcz69_1
             try clear hcz69_2
             try clear hcz69_3
             try clear hcz75_0
             try clear hcz75_1
             try clear hcz75_2
             try clear hcz75_3
             try clear hcz80_0
             try clear hcz80_1
             try clear hcz80_2
             try clear hcz80_3
             try clear hcz90_0
             try clear hcz90_1
             try clear hcz90_2
             try clear hcz90_3
             try clear hcz92_0
             try clear hcz92_1
             try clear hcz92_2
             try clear hcz92_3
             try clear hcz97_0
             try clear hcz97_1
             try clear hcz97_2
             try clear hcz97_3
             try clear hcz99_0
             try clear hcz99_1
             try clear hcz99_2
             try clear hcz99_3
             try clear hfz104_0
             try clear hfz104_1
             try clear hfz104_2
             try clear hfz104_3
             try clear hfz114_0
             try clear hfz114_1
             try clear hfz114_2
             try clear hfz114_3
             try clear hfz121_0
             try clear hfz121_1
             try clear hfz121_2
             try clear hfz121_3
             try clear hfz141_0
             try clear hfz141_1
             try clear hfz141_2
             try clear hfz141_3
             try clear hfz147_0
             try clear hfz147_1
             try clear hfz147_2
             try clear hfz147_3
             try clear hfz152_0
             try clear hfz152_1
             try clear hfz152_2
             try clear hfz152_3
             try clear hfz157_0
             try clear hfz157_1
             try clear hfz157_2
             try clear hfz157_3
             try clear hfz162_0
             try clear hfz162_1
             try clear hfz162_2
             try clear hfz162_3
             try clear hfz17_0
             try clear hfz17_1
             try clear hfz17_2
             try clear hfz17_3
             try clear hfz22_0
             try clear hfz22_1
             try clear hfz22_2
             try clear hfz22_3
             try clear hfz26_0
             try clear hfz26_1
             try clear hfz26_2
             try clear hfz26_3
             try clear hfz28_0
             try clear hfz28_1
             try clear hfz28_2
             try clear hfz28_3
             try clear hfz46_0
             try clear hfz46_1
             try clear hfz46_2
             try clear hfz46_3
             try clear hfz57_0
             try clear hfz57_1
             try clear hfz57_2
             try clear hfz57_3
             try clear hfz60_0
             try clear hfz60_1
             try clear hfz60_2
             try clear hfz60_3
             try clear hfz66_0
             try clear hfz66_1
             try clear hfz66_2
             try clear hfz66_3
             try clear hfz69_0
             try clear hfz69_1
             try clear hfz69_2
             try clear hfz69_3
             try clear hfz75_0
             try clear hfz75_1
             try clear hfz75_2
             try clear hfz75_3
             try clear hfz80_0
             try clear hfz80_1
             try clear hfz80_2
             try clear hfz80_3
             try clear hfz90_0
             try clear hfz90_1
             try clear hfz90_2
             try clear hfz90_3
             try clear hfz92_0
             try clear hfz92_1
             try clear hfz92_2
             try clear hfz92_3
             try clear hfz97_0
             try clear hfz97_1
             try clear hfz97_2
             try clear hfz97_3
             try clear hfz99_0
             try clear hfz99_1
             try clear hfz99_2
             try clear hfz99_3
             try clear p2
             try clear p6
             try clear p64
             obtain ⟨kq, HA, HJ131, HO_144001, BK101, BK102, BK143, BK149, HB⟩ := hcut
             cases kq with
             | zero => exact absurd HA.out (by simp [w04_ObjectBack.j5])
             | succ kj131 =>
              have H := HA.out
              clear HA
              simp only [w04_ObjectBack.j5] at H
              by_cases c164 : t148 = true
              ·
               subst c164
               have H1 : ((Ob.Gv.putLabel.f t144 t145 t146 t147).bind fun bt154 => (if bt154.2 = true then (if bt154.1.toList = a3.toList then (if t133 = true then (some false) else (some t103)) else (some false)) else (some false))) = some r := by rw [if_pos rfl] at H; exact H
               clear H
               have H := H1
               clear H1
               replace H := Option.bind_eq_some_iff.mp H
               obtain ⟨⟨t154, t155⟩, A1650, H⟩ := H
               replace H : (if t155 = true then (if t154.toList = a3.toList then (if t133 = true then (some false) else (some t103)) else (some false)) else (some false)) = some r := H
               have A165 := Aside0.mk A1650
               clear A1650
               by_cases c166 : t155 = true
               ·
                subst c166
                have H1 : (if t154.toList = a3.toList then (if t133 = true then (some false) else (some t103)) else (some false)) = some r := by rw [if_pos rfl] at H; exact H
                clear H
                have H := H1
                clear H1
                by_cases c167 : t154.toList = a3.toList
                ·
                 rw [if_pos c167] at H
                 have c167b0 : (t154.toList == a3.toList) = true := beq_iff_eq.mpr c167
                 have c167b1 : (t154.toList != a3.toList) = false := bne_eq_false_iff_eq.mpr c167
                 clear c167
                 by_cases c168 : t133 = true
                 ·
                  subst c168
                  have H1 : (some false) = some r := by rw [if_pos rfl] at H; exact H
                  clear H
                  have H := H1
                  clear H1
                  obtain rfl := Option.some.inj H
                  have hnb169 := NB149_101.out
                  have hnc169 := NB101_149.out
                  have hnb170 := NB149_102.out
                  have hnc170 := NB102_149.out
                  have hnb171 := NB149_143.out
                  have hnc171 := NB143_149.out
                  have hcz172_0 : wc.cell? ⟨gb149, 0, none⟩ = some (.string t144) := (blk_cell BK149.out 0).trans rfl
                  have hcz172_1 : wc.cell? ⟨gb149, 1, none⟩ = some (.int .i64 t145) := (blk_cell BK149.out 1).trans rfl
                  have hcz172_2 : wc.cell? ⟨gb149, 2, none⟩ = some (.string t146) := (blk_cell BK149.out 2).trans rfl
                  have hcz172_3 : wc.cell? ⟨gb149, 3, none⟩ = some (.string t147) := (blk_cell BK149.out 3).trans rfl
                  have hfz172_0 := blk_frozen BK149.out 0
                  have hfz172_1 := blk_frozen BK149.out 1
                  have hfz172_2 := blk_frozen BK149.out 2
                  have hfz172_3 := blk_frozen BK149.out 3
                  go_wp2_with (first | ((with_reducible refine gate_callee (f := 27) rfl ?_); refine goesL_ (some 167) rfl rfl Tryz.func27 (by kernel_rfl) rfl #[.agg #[.string t144, .int .i64 t145, .string t146, .string t147]] rfl (by (try simp only [List.map_toArray, List.map_cons, List.map_nil]); first | done | rfl | (simp only [List.length_drop, List.length_take]; rfl)) ?_; (with_reducible refine (Ob.Gv.putLabel.calls t144 t145 t146 t147 t154 true _ A165.out).mono ?_); rintro e w173 ⟨rfl, hb⟩; refine ⟨_, rfl, ?_⟩; have n0_ := Aside0.mk (Kd.R_below (by (with_reducible repeat (first | apply Kd.R_alloc | apply Kd.R_drewN | apply Kd.R_drew)); exact HO_144001.out) hb); have n1_ := Aside0.mk (blk_below (g := gb101) (o := .cells #[.string a1_0, .slice A1_1 l1_1.length c1_1, .string a1_2, .string a1_3] 40 (0, 0)) (by (with_reducible repeat (first | refine blk_drewN ?_ _ | refine blk_drew ?_ | refine blk_alloc ?_ _)); exact BK101.out) hb); have n2_ := Aside0.mk (blk_below (g := gb102) (o := .cells #[.string a2_0, .int .i64 a2_1, .string a2_2, .string a2_3] 42 (0, 0)) (by (with_reducible repeat (first | refine blk_drewN ?_ _ | refine blk_drew ?_ | refine blk_alloc ?_ _)); exact BK102.out) hb); have n3_ := Aside0.mk (blk_below (g := gb143) (o := .cells #[.string t136, .slice Ao115 t137.length co115, .string t140, .string t141] 40 (0, 0)) (by (with_reducible repeat (first | refine blk_drewN ?_ _ | refine blk_drew ?_ | refine blk_alloc ?_ _)); exact BK143.out) hb); have n4_ := Aside0.mk (blk_below (g := gb149) (o := .cells #[.string t144, .int .i64 t145, .string t146, .string t147] 42 (0, 0)) (by (with_reducible repeat (first | refine blk_drewN ?_ _ | refine blk_drew ?_ | refine blk_alloc ?_ _)); exact BK149.out) hb); have n5_ := Aside0.mk (below_step (by repeat (first | (with_reducible first | exact HB.out | apply below_alloc | apply pw_below_drewN | apply below_drew1 | refine below_set ?_ GE101.out | refine below_set ?_ GE102.out | refine below_set ?_ GE143.out | refine below_set ?_ GE149.out) | exact HB.out)) hb); clear HO_144001; clear BK101; clear BK102; clear BK143; clear BK149; clear HB; have HO_144001 := n0_; have BK101 := n1_; have BK102 := n2_; have BK143 := n3_; have BK149 := n4_; have HB := n5_; clear n0_ n1_ n2_ n3_ n4_ n5_; (try clear hb); (try clear hb2); (try clear hk); (try clear hi)))
                  go_ret
                  exact ⟨by first | rfl | (simp [errW_none, errW_some] <;> rfl) | (simp [*, errW_none, errW_some] <;> rfl), by repeat (first | (with_reducible first | exact HB.out | apply below_alloc | apply pw_below_drewN | apply below_drew1 | refine below_set ?_ GE101.out | refine below_set ?_ GE102.out | refine below_set ?_ GE143.out | refine below_set ?_ GE149.out) | exact HB.out)⟩
                 ·
                  replace c168 := Bool.eq_false_iff.mpr c168
                  subst c168
                  have H1 : (some t103) = some r := by rw [if_neg (show ¬ (false = true) by decide)] at H; exact H
                  clear H
                  have H := H1
                  clear H1
                  obtain rfl := Option.some.inj H
                  have hnb174 := NB149_101.out
                  have hnc174 := NB101_149.out
                  have hnb175 := NB149_102.out
                  have hnc175 := NB102_149.out
                  have hnb176 := NB149_143.out
                  have hnc176 := NB143_149.out
                  have hcz177_0 : wc.cell? ⟨gb149, 0, none⟩ = some (.string t144) := (blk_cell BK149.out 0).trans rfl
                  have hcz177_1 : wc.cell? ⟨gb149, 1, none⟩ = some (.int .i64 t145) := (blk_cell BK149.out 1).trans rfl
                  have hcz177_2 : wc.cell? ⟨gb149, 2, none⟩ = some (.string t146) := (blk_cell BK149.out 2).trans rfl
                  have hcz177_3 : wc.cell? ⟨gb149, 3, none⟩ = some (.string t147) := (blk_cell BK149.out 3).trans rfl
                  have hfz177_0 := blk_frozen BK149.out 0
                  have hfz177_1 := blk_frozen BK149.out 1
                  have hfz177_2 := blk_frozen BK149.out 2
                  have hfz177_3 := blk_frozen BK149.out 3
                  go_wp2_with (first | ((with_reducible refine gate_callee (f := 27) rfl ?_); refine goesL_ (some 167) rfl rfl Tryz.func27 (by kernel_rfl) rfl #[.agg #[.string t144, .int .i64 t145, .string t146, .string t147]] rfl (by (try simp only [List.map_toArray, List.map_cons, List.map_nil]); first | done | rfl | (simp only [List.length_drop, List.length_take]; rfl)) ?_; (with_reducible refine (Ob.Gv.putLabel.calls t144 t145 t146 t147 t154 true _ A165.out).mono ?_); rintro e w178 ⟨rfl, hb⟩; refine ⟨_, rfl, ?_⟩; have n0_ := Aside0.mk (Kd.R_below (by (with_reducible repeat (first | apply Kd.R_alloc | apply Kd.R_drewN | apply Kd.R_drew)); exact HO_144001.out) hb); have n1_ := Aside0.mk (blk_below (g := gb101) (o := .cells #[.string a1_0, .slice A1_1 l1_1.length c1_1, .string a1_2, .string a1_3] 40 (0, 0)) (by (with_reducible repeat (first | refine blk_drewN ?_ _ | refine blk_drew ?_ | refine blk_alloc ?_ _)); exact BK101.out) hb); have n2_ := Aside0.mk (blk_below (g := gb102) (o := .cells #[.string a2_0, .int .i64 a2_1, .string a2_2, .string a2_3] 42 (0, 0)) (by (with_reducible repeat (first | refine blk_drewN ?_ _ | refine blk_drew ?_ | refine blk_alloc ?_ _)); exact BK102.out) hb); have n3_ := Aside0.mk (blk_below (g := gb143) (o := .cells #[.string t136, .slice Ao115 t137.length co115, .string t140, .string t141] 40 (0, 0)) (by (with_reducible repeat (first | refine blk_drewN ?_ _ | refine blk_drew ?_ | refine blk_alloc ?_ _)); exact BK143.out) hb); have n4_ := Aside0.mk (blk_below (g := gb149) (o := .cells #[.string t144, .int .i64 t145, .string t146, .string t147] 42 (0, 0)) (by (with_reducible repeat (first | refine blk_drewN ?_ _ | refine blk_drew ?_ | refine blk_alloc ?_ _)); exact BK149.out) hb); have n5_ := Aside0.mk (below_step (by repeat (first | (with_reducible first | exact HB.out | apply below_alloc | apply pw_below_drewN | apply below_drew1 | refine below_set ?_ GE101.out | refine below_set ?_ GE102.out | refine below_set ?_ GE143.out | refine below_set ?_ GE149.out) | exact HB.out)) hb); clear HO_144001; clear BK101; clear BK102; clear BK143; clear BK149; clear HB; have HO_144001 := n0_; have BK101 := n1_; have BK102 := n2_; have BK143 := n3_; have BK149 := n4_; have HB := n5_; clear n0_ n1_ n2_ n3_ n4_ n5_; (try clear hb); (try clear hb2); (try clear hk); (try clear hi)))
                  go_ret
                  exact ⟨by first | rfl | (simp [errW_none, errW_some] <;> rfl) | (simp [*, errW_none, errW_some] <;> rfl), by repeat (first | (with_reducible first | exact HB.out | apply below_alloc | apply pw_below_drewN | apply below_drew1 | refine below_set ?_ GE101.out | refine below_set ?_ GE102.out | refine below_set ?_ GE143.out | refine below_set ?_ GE149.out) | exact HB.out)⟩
                ·
                 rw [if_neg c167] at H
                 have c167b0 : (t154.toList == a3.toList) = false := beq_eq_false_iff_ne.mpr c167
                 have c167b1 : (t154.toList != a3.toList) = true := bne_iff_ne.mpr c167
                 obtain rfl := Option.some.inj H
                 have hnb179 := NB149_101.out
                 have hnc179 := NB101_149.out
                 have hnb180 := NB149_102.out
                 have hnc180 := NB102_149.out
                 have hnb181 := NB149_143.out
                 have hnc181 := NB143_149.out
                 have hcz182_0 : wc.cell? ⟨gb149, 0, none⟩ = some (.string t144) := (blk_cell BK149.out 0).trans rfl
                 have hcz182_1 : wc.cell? ⟨gb149, 1, none⟩ = some (.int .i64 t145) := (blk_cell BK149.out 1).trans rfl
                 have hcz182_2 : wc.cell? ⟨gb149, 2, none⟩ = some (.string t146) := (blk_cell BK149.out 2).trans rfl
                 have hcz182_3 : wc.cell? ⟨gb149, 3, none⟩ = some (.string t147) := (blk_cell BK149.out 3).trans rfl
                 have hfz182_0 := blk_frozen BK149.out 0
                 have hfz182_1 := blk_frozen BK149.out 1
                 have hfz182_2 := blk_frozen BK149.out 2
                 have hfz182_3 := blk_frozen BK149.out 3
                 go_wp2_with (first | ((with_reducible refine gate_callee (f := 27) rfl ?_); refine goesL_ (some 167) rfl rfl Tryz.func27 (by kernel_rfl) rfl #[.agg #[.string t144, .int .i64 t145, .string t146, .string t147]] rfl (by (try simp only [List.map_toArray, List.map_cons, List.map_nil]); first | done | rfl | (simp only [List.length_drop, List.length_take]; rfl)) ?_; (with_reducible refine (Ob.Gv.putLabel.calls t144 t145 t146 t147 t154 true _ A165.out).mono ?_); rintro e w183 ⟨rfl, hb⟩; refine ⟨_, rfl, ?_⟩; have n0_ := Aside0.mk (Kd.R_below (by (with_reducible repeat (first | apply Kd.R_alloc | apply Kd.R_drewN | apply Kd.R_drew)); exact HO_144001.out) hb); have n1_ := Aside0.mk (blk_below (g := gb101) (o := .cells #[.string a1_0, .slice A1_1 l1_1.length c1_1, .string a1_2, .string a1_3] 40 (0, 0)) (by (with_reducible repeat (first | refine blk_drewN ?_ _ | refine blk_drew ?_ | refine blk_alloc ?_ _)); exact BK101.out) hb); have n2_ := Aside0.mk (blk_below (g := gb102) (o := .cells #[.string a2_0, .int .i64 a2_1, .string a2_2, .string a2_3] 42 (0, 0)) (by (with_reducible repeat (first | refine blk_drewN ?_ _ | refine blk_drew ?_ | refine blk_alloc ?_ _)); exact BK102.out) hb); have n3_ := Aside0.mk (blk_below (g := gb143) (o := .cells #[.string t136, .slice Ao115 t137.length co115, .string t140, .string t141] 40 (0, 0)) (by (with_reducible repeat (first | refine blk_drewN ?_ _ | refine blk_drew ?_ | refine blk_alloc ?_ _)); exact BK143.out) hb); have n4_ := Aside0.mk (blk_below (g := gb149) (o := .cells #[.string t144, .int .i64 t145, .string t146, .string t147] 42 (0, 0)) (by (with_reducible repeat (first | refine blk_drewN ?_ _ | refine blk_drew ?_ | refine blk_alloc ?_ _)); exact BK149.out) hb); have n5_ := Aside0.mk (below_step (by repeat (first | (with_reducible first | exact HB.out | apply below_alloc | apply pw_below_drewN | apply below_drew1 | refine below_set ?_ GE101.out | refine below_set ?_ GE102.out | refine below_set ?_ GE143.out | refine below_set ?_ GE149.out) | exact HB.out)) hb); clear HO_144001; clear BK101; clear BK102; clear BK143; clear BK149; clear HB; have HO_144001 := n0_; have BK101 := n1_; have BK102 := n2_; have BK143 := n3_; have BK149 := n4_; have HB := n5_; clear n0_ n1_ n2_ n3_ n4_ n5_; (try clear hb); (try clear hb2); (try clear hk); (try clear hi)))
                 go_ret
                 exact ⟨by first | rfl | (simp [errW_none, errW_some] <;> rfl) | (simp [*, errW_none, errW_some] <;> rfl), by repeat (first | (with_reducible first | exact HB.out | apply below_alloc | apply pw_below_drewN | apply below_drew1 | refine below_set ?_ GE101.out | refine below_set ?_ GE102.out | refine below_set ?_ GE143.out | refine below_set ?_ GE149.out) | exact HB.out)⟩
               ·
                replace c166 := Bool.eq_false_iff.mpr c166
                subst c166
                have H1 : (some false) = some r := by rw [if_neg (show ¬ (false = true) by decide)] at H; exact H
                clear H
                have H := H1
                clear H1
                obtain rfl := Option.some.inj H
                have hnb184 := NB149_101.out
                have hnc184 := NB101_149.out
                have hnb185 := NB149_102.out
                have hnc185 := NB102_149.out
                have hnb186 := NB149_143.out
                have hnc186 := NB143_149.out
                have hcz187_0 : wc.cell? ⟨gb149, 0, none⟩ = some (.string t144) := (blk_cell BK149.out 0).trans rfl
                have hcz187_1 : wc.cell? ⟨gb149, 1, none⟩ = some (.int .i64 t145) := (blk_cell BK149.out 1).trans rfl
                have hcz187_2 : wc.cell? ⟨gb149, 2, none⟩ = some (.string t146) := (blk_cell BK149.out 2).trans rfl
                have hcz187_3 : wc.cell? ⟨gb149, 3, none⟩ = some (.string t147) := (blk_cell BK149.out 3).trans rfl
                have hfz187_0 := blk_frozen BK149.out 0
                have hfz187_1 := blk_frozen BK149.out 1
                have hfz187_2 := blk_frozen BK149.out 2
                have hfz187_3 := blk_frozen BK149.out 3
                go_wp2_with (first | ((with_reducible refine gate_callee (f := 27) rfl ?_); refine goesL_ (some 167) rfl rfl Tryz.func27 (by kernel_rfl) rfl #[.agg #[.string t144, .int .i64 t145, .string t146, .string t147]] rfl (by (try simp only [List.map_toArray, List.map_cons, List.map_nil]); first | done | rfl | (simp only [List.length_drop, List.length_take]; rfl)) ?_; (with_reducible refine (Ob.Gv.putLabel.calls t144 t145 t146 t147 t154 false _ A165.out).mono ?_); rintro e w188 ⟨rfl, hb⟩; refine ⟨_, rfl, ?_⟩; have n0_ := Aside0.mk (Kd.R_below (by (with_reducible repeat (first | apply Kd.R_alloc | apply Kd.R_drewN | apply Kd.R_drew)); exact HO_144001.out) hb); have n1_ := Aside0.mk (blk_below (g := gb101) (o := .cells #[.string a1_0, .slice A1_1 l1_1.length c1_1, .string a1_2, .string a1_3] 40 (0, 0)) (by (with_reducible repeat (first | refine blk_drewN ?_ _ | refine blk_drew ?_ | refine blk_alloc ?_ _)); exact BK101.out) hb); have n2_ := Aside0.mk (blk_below (g := gb102) (o := .cells #[.string a2_0, .int .i64 a2_1, .string a2_2, .string a2_3] 42 (0, 0)) (by (with_reducible repeat (first | refine blk_drewN ?_ _ | refine blk_drew ?_ | refine blk_alloc ?_ _)); exact BK102.out) hb); have n3_ := Aside0.mk (blk_below (g := gb143) (o := .cells #[.string t136, .slice Ao115 t137.length co115, .string t140, .string t141] 40 (0, 0)) (by (with_reducible repeat (first | refine blk_drewN ?_ _ | refine blk_drew ?_ | refine blk_alloc ?_ _)); exact BK143.out) hb); have n4_ := Aside0.mk (blk_below (g := gb149) (o := .cells #[.string t144, .int .i64 t145, .string t146, .string t147] 42 (0, 0)) (by (with_reducible repeat (first | refine blk_drewN ?_ _ | refine blk_drew ?_ | refine blk_alloc ?_ _)); exact BK149.out) hb); have n5_ := Aside0.mk (below_step (by repeat (first | (with_reducible first | exact HB.out | apply below_alloc | apply pw_below_drewN | apply below_drew1 | refine below_set ?_ GE101.out | refine below_set ?_ GE102.out | refine below_set ?_ GE143.out | refine below_set ?_ GE149.out) | exact HB.out)) hb); clear HO_144001; clear BK101; clear BK102; clear BK143; clear BK149; clear HB; have HO_144001 := n0_; have BK101 := n1_; have BK102 := n2_; have BK143 := n3_; have BK149 := n4_; have HB := n5_; clear n0_ n1_ n2_ n3_ n4_ n5_; (try clear hb); (try clear hb2); (try clear hk); (try clear hi)))
                go_ret
                exact ⟨by first | rfl | (simp [errW_none, errW_some] <;> rfl) | (simp [*, errW_none, errW_some] <;> rfl), by repeat (first | (with_reducible first | exact HB.out | apply below_alloc | apply pw_below_drewN | apply below_drew1 | refine below_set ?_ GE101.out | refine below_set ?_ GE102.out | refine below_set ?_ GE143.out | refine below_set ?_ GE149.out) | exact HB.out)⟩
              ·
               replace c164 := Bool.eq_false_iff.mpr c164
               subst c164
               have H1 : (some t103) = some r := by rw [if_neg (show ¬ (false = true) by decide)] at H; exact H
               clear H
               have H := H1
               clear H1
               obtain rfl := Option.some.inj H
               go_wp2
               go_ret
               exact ⟨by first | rfl | (simp [errW_none, errW_some] <;> rfl) | (simp [*, errW_none, errW_some] <;> rfl), by repeat (first | (with_reducible first | exact HB.out | apply below_alloc | apply pw_below_drewN | apply below_drew1 | refine below_set ?_ GE101.out | refine below_set ?_ GE102.out | refine below_set ?_ GE143.out | refine below_set ?_ GE149.out) | exact HB.out)⟩
end Go.Proofs.YtefefhhaopjccaaGreatDoor.PObjectBack

namespace Go.Proofs.YtefefhhaopjccaaGreatDoor.Ob
set_option linter.unusedVariables false
set_option linter.unusedSimpArgs false
open Go Go.RowKit Go.Proofs.YtefefhhaopjccaaGreatDoorW.PrintWords Go.Proofs.YtefefhhaopjccaaGreatDoorW.PrintLast Go.Proofs.YtefefhhaopjccaaGreatDoorW.PrintMore PObBase PObGet PObRt
theorem treeT_size {l : List It} (h : treeB l = true) : (treeT l).size ≤ 40000 := by
  have hi := tree_items h
  have := items_len (l := l) (fun x hx => by
    obtain ⟨a, b, c, d⟩ := hi x hx
    exact ⟨a, b, (partB_size c).2, nm_size d⟩)
  have h2 := (treeB_parts h).2
  rw [← L_len, L_tree]
  omega
theorem changeL_size {c : Chg} (h : changeB c = true) : (changeL c).length ≤ 1000 + c.f3.size := by
  obtain ⟨h0, h1, h8, _, h100, _⟩ := change_parts h
  have hz := nm_size h0
  have hp := preL_len hz (fun p hp => nm_size (h1 p hp)) c.f1.length
  rw [← change_all_text (n := c.f1.length) rfl, List.length_append]
  have : (lineL wWho (L c.f2) ++ 10 :: L c.f3).length = 4 + c.f2.size + 1 + (1 + c.f3.size) := by
    simp [lineL, wWho]; omega
  rw [this]
  omega
theorem labelL_size {c : Lab} (h : labelB c = true) : (labelL c).length ≤ 1000 + c.f3.size := by
  obtain ⟨h0, _, _, hp⟩ := label_parts h
  have hz := nm_size h0
  have hn := (partB_size hp).2
  have hw := word_size c.f1
  simp [labelL, lineL, wObject, wKind, wName, hz]
  omega
theorem finC_sh (s : ByteArray) (hs : s.size ≤ 400000000) : Csh (getChange s).1 := by
  rcases getChange_else s with ⟨c, hc⟩ | h
  · have := parseC_sh (s := s) (by omega)
    have e : c = parseC s := by
      have h1 := hc
      rw [getChange_fin] at h1
      unfold finC at h1
      split at h1
      · exact (Prod.mk.inj h1).1.symm
      · cases (Prod.mk.inj h1).2
    rw [hc, e]; exact this
  · rw [h]
    exact ⟨Nat.zero_le _, Nat.zero_le _, (fun p hp => nomatch hp), Nat.zero_le _, Nat.zero_le _⟩
theorem finL_sh (s : ByteArray) (hs : s.size ≤ 400000000) : Gv.Lsh (getLabel s).1 := by
  rcases getLabel_else s with ⟨c, hc⟩ | h
  · have e : c = parseL s := by
      have h1 := hc
      rw [getLabel_fin] at h1
      unfold finL at h1
      split at h1
      · exact (Prod.mk.inj h1).1.symm
      · cases (Prod.mk.inj h1).2
    obtain ⟨a, _, _, _, b, _, d⟩ := rdL_le s
    rw [hc, e]
    exact ⟨by show (bs _).size ≤ _; rw [bs_size]; omega, by show (bs _).size ≤ _; rw [bs_size]; omega, by show (bs _).size ≤ _; rw [bs_size]; omega⟩
  · rw [h]; exact ⟨Nat.zero_le _, Nat.zero_le _, Nat.zero_le _⟩
theorem first_byte {a b : List UInt8} {x y : UInt8} (h : x :: a = y :: b) : x = y := (List.cons.inj h).1
theorem tree_first {l : List It} (h : treeB l = true) : treeT l = ⟨#[]⟩ ∨ ∃ u r, L (treeT l) = u :: r ∧ u.toNat < 52 := by
  cases l with
  | nil => exact .inl rfl
  | cons x r =>
    have hx := tree_items h x List.mem_cons_self
    refine .inr ⟨UInt8.ofNat (48 + x.f0.toNat), (32 :: L x.f1) ++ 0 :: L x.f2 ++ itemsL r, ?_, ?_⟩
    · rw [L_tree]
      have e : itemsL (x :: r) = L (itemS x) ++ itemsL r := by simp [itemsL]
      rw [e, L_item hx]; rfl
    · obtain ⟨a, b, _, _⟩ := hx
      rw [UInt8.toNat_ofNat']
      omega
theorem not_ct {c : Chg} {l : List It} (h : treeB l = true) : bs (changeL c) ≠ treeT l := by
  intro e
  have e1 := congrArg L e
  rw [L_bs] at e1
  rcases tree_first h with h0 | ⟨u, r, h0, hu⟩
  · rw [h0] at e1
    have e2 : changeL c = 116 :: (changeL c).tail := rfl
    rw [e2] at e1
    cases e1
  · rw [h0] at e1
    have e2 : changeL c = 116 :: (changeL c).tail := rfl
    rw [e2] at e1
    have := first_byte e1
    rw [← this] at hu
    revert hu; decide
theorem not_lt {x : Lab} {l : List It} (h : treeB l = true) : bs (labelL x) ≠ treeT l := by
  intro e
  have e1 := congrArg L e
  rw [L_bs] at e1
  rcases tree_first h with h0 | ⟨u, r, h0, hu⟩
  · rw [h0] at e1
    have e2 : labelL x = 111 :: (labelL x).tail := rfl
    rw [e2] at e1
    cases e1
  · rw [h0] at e1
    have e2 : labelL x = 111 :: (labelL x).tail := rfl
    rw [e2] at e1
    have := first_byte e1
    rw [← this] at hu
    revert hu; decide
theorem not_cl {c : Chg} {x : Lab} : bs (changeL c) ≠ bs (labelL x) := by
  intro e
  have e1 := bs_inj.1 e
  have e2 : changeL c = 116 :: (changeL c).tail := rfl
  have e3 : labelL x = 111 :: (labelL x).tail := rfl
  rw [e2, e3] at e1
  have := first_byte e1
  revert this; decide
end Go.Proofs.YtefefhhaopjccaaGreatDoor.Ob

namespace Go.Proofs.YtefefhhaopjccaaGreatDoor.Ob
set_option linter.unusedVariables false
set_option linter.unusedSimpArgs false
open Go Go.RowKit Go.Proofs.YtefefhhaopjccaaGreatDoorW.PrintWords Go.Proofs.YtefefhhaopjccaaGreatDoorW.PrintLast Go.Proofs.YtefefhhaopjccaaGreatDoorW.PrintMore PObBase PObGet PObRt PObjectBack
section
variable (l : List It) (c : Chg) (x : Lab) (s : ByteArray)
theorem back_j5 (hs : s.size ≤ 9000) (tr : Bool) (htr : tr = (getTree s).2) (g : Lab) (hg : getLabel s = (g, (getLabel s).2)) : Ev (fun n => w04_ObjectBack.j5 n s true tr (getLabel s).2 g.f0 g.f1 g.f2 g.f3) true := by
  cases hl : (getLabel s).2 with
  | false => exact Ev.step (f := fun _ => some true) (fun n => by simp only [w04_ObjectBack.j5]; exact if_neg (by simp)) (Ev.now _)
  | true =>
    rw [hl] at hg
    have hp := (getLabel_iff s g).1 hg
    have hsh := finL_sh s (by omega)
    rw [hg] at hsh
    have ht : tr = false := by
      rw [htr]
      rcases getTree_else s with ⟨l', hl'⟩ | h
      · obtain ⟨a, b⟩ := putTree_iff.1 ((getTree_iff s l').1 hl')
        obtain ⟨_, b2⟩ := putLabel_iff.1 hp
        exact absurd (b2.symm.trans b) (not_lt a)
      · rw [h]
    refine Ev.step (f := fun _ => some true) (fun n => ?_) (Ev.now _)
    simp only [w04_ObjectBack.j5]
    rw [if_pos trivial, Gv.putLabel.f_eq hsh, hp]
    simp [ht]
theorem back_j4 (hs : s.size ≤ 9000) : Ev (fun n => w04_ObjectBack.j4 n s true (getTree s).2 (getChange s).2 (getLabel s).2 (getChange s).1.f0 (getChange s).1.f1 (getChange s).1.f2 (getChange s).1.f3 (getLabel s).1.f0 (getLabel s).1.f1 (getLabel s).1.f2 (getLabel s).1.f3) true := by
  have h5 := back_j5 s hs (getTree s).2 rfl (getLabel s).1 rfl
  cases hc : (getChange s).2 with
  | false =>
    refine Ev.step (fun n => ?_) h5
    simp only [w04_ObjectBack.j4]
    exact if_neg (by simp)
  | true =>
    have hg : getChange s = ((getChange s).1, true) := Prod.ext rfl hc
    have hp := (getChange_iff s _).1 hg
    obtain ⟨c1, c2⟩ := putChange_iff.1 hp
    have hsh := finC_sh s (by omega)
    have ht : (getTree s).2 = false := by
      rcases getTree_else s with ⟨l', hl'⟩ | h
      · obtain ⟨a, b⟩ := putTree_iff.1 ((getTree_iff s l').1 hl')
        exact absurd (c2.symm.trans b) (not_ct a)
      · rw [h]
    have hlb : (getLabel s).2 = false := by
      rcases getLabel_else s with ⟨l', hl'⟩ | h
      · obtain ⟨a, b⟩ := putLabel_iff.1 ((getLabel_iff s l').1 hl')
        exact absurd (c2.symm.trans b) not_cl
      · rw [h]
    rw [ht, hlb] at h5 ⊢
    refine Ev.step (fun n => ?_) h5
    simp only [w04_ObjectBack.j4]
    rw [if_pos trivial, Gv.putChange.f_eq hsh, hp]
    simp
theorem back_j3 (hs : s.size ≤ 9000) : Ev (fun n => w04_ObjectBack.j3 n s true) true := by
  refine Ev.step (f := fun n => (object_GetTree.f n s).bind fun bt132 => (if bt132.2 = true then ((Gv.putTree.f bt132.1).bind fun bt150 => (if bt150.2 = true then (if bt150.1.toList = s.toList then (w04_ObjectBack.j4 n s true bt132.2 (getChange s).2 (getLabel s).2 (getChange s).1.f0 (getChange s).1.f1 (getChange s).1.f2 (getChange s).1.f3 (getLabel s).1.f0 (getLabel s).1.f1 (getLabel s).1.f2 (getLabel s).1.f3) else (some false)) else (some false))) else (w04_ObjectBack.j4 n s true bt132.2 (getChange s).2 (getLabel s).2 (getChange s).1.f0 (getChange s).1.f1 (getChange s).1.f2 (getChange s).1.f3 (getLabel s).1.f0 (getLabel s).1.f1 (getLabel s).1.f2 (getLabel s).1.f3))) (fun n => ?_) (Ev.bind (getT_ev s (by omega)) ?_)
  · simp only [w04_ObjectBack.j3]
    rw [Gv.getChange.f_eq (by omega), Gv.getLabel.f_eq (by omega)]
    rfl
  · cases ht : (getTree s).2 with
    | false =>
      have h4 := back_j4 s hs
      rw [ht] at h4
      exact Ev.congr (fun n => if_neg (by simp)) h4
    | true =>
      have h4 := back_j4 s hs
      rw [ht] at h4
      have hg : getTree s = ((getTree s).1, true) := Prod.ext rfl ht
      have hp := (getTree_iff s _).1 hg
      have htb := (putTree_iff.1 hp).1
      have hish : Ish (getTree s).1 := fun y hy => by
        obtain ⟨_, _, a, b⟩ := tree_items htb y hy
        have := (partB_size a).2
        have := nm_size b
        exact ⟨by omega, by omega⟩
      refine Ev.congr (fun n => ?_) h4
      rw [if_pos rfl, Gv.putTree.f_eq hish (by have := (treeB_parts htb).2; omega), hp]
      simp
theorem back_j2 (hs : s.size ≤ 9000) (hx : Gv.Lsh x) (hx3 : x.f3.size ≤ 9000) : Ev (fun n => w04_ObjectBack.j2 n s true x.f0 x.f1 x.f2 x.f3) true := by
  refine Ev.step (fun n => ?_) (back_j3 s hs)
  simp only [w04_ObjectBack.j2]
  rw [Gv.putLabel.f_eq hx]
  obtain ⟨o, f, hof⟩ : ∃ o f, putLabel x = (o, f) := ⟨_, _, rfl⟩
  rw [hof]
  cases f with
  | false => rfl
  | true =>
    have hg := (getLabel_iff o x).2 hof
    obtain ⟨a, b⟩ := putLabel_iff.1 hof
    have ho : o.size ≤ 400000000 := by
      rw [b, bs_size]
      have := labelL_size a
      omega
    simp [Gv.getLabel.f_eq ho, hg, tupL]
theorem back_j1 (hs : s.size ≤ 9000) (hc : Zc c) (hx : Gv.Lsh x) (hx3 : x.f3.size ≤ 9000) : Ev (fun n => w04_ObjectBack.j1 n s true c.f0 c.f1 c.f2 c.f3 x.f0 x.f1 x.f2 x.f3) true := by
  obtain ⟨o, f, hof⟩ : ∃ o f, putChange c = (o, f) := ⟨_, _, rfl⟩
  have hsh := hc.csh
  cases f with
  | false =>
    refine Ev.step (fun n => ?_) (back_j2 x s hs hx hx3)
    simp only [w04_ObjectBack.j1]
    rw [Gv.putChange.f_eq hsh, hof]
    rfl
  | true =>
    have hg := (getChange_iff o c).2 hof
    obtain ⟨a, b⟩ := putChange_iff.1 hof
    have ho : o.size ≤ 400000000 := by
      rw [b, bs_size]
      have := changeL_size a
      have := hc.h3
      omega
    refine Ev.step (f := fun n => (r04_SameChange.f n c.f0 c.f1 c.f2 c.f3 c.f0 c.f1 c.f2 c.f3).bind fun t123 => (if t123 = true then (w04_ObjectBack.j2 n s true x.f0 x.f1 x.f2 x.f3) else (some false))) (fun n => ?_) (Ev.bind (sameC_refl c (by have := hc.hl; omega)) (Ev.congr (fun n => if_pos rfl) (back_j2 x s hs hx hx3)))
    simp only [w04_ObjectBack.j1]
    rw [Gv.putChange.f_eq hsh, hof]
    simp [Gv.getChange.f_eq ho, hg, tupC]
theorem back_j0 (hs : s.size ≤ 9000) (hl : Zi l) (hc : Zc c) (hx : Gv.Lsh x) (hx3 : x.f3.size ≤ 9000) : Ev (fun n => w04_ObjectBack.j0 n l s true false c.f0 c.f1 c.f2 c.f3 x.f0 x.f1 x.f2 x.f3) true := by
  obtain ⟨o, f, hof⟩ : ∃ o f, putTree l = (o, f) := ⟨_, _, rfl⟩
  have hl2 := hl.1
  cases f with
  | false =>
    refine Ev.step (fun n => ?_) (back_j1 c x s hs hc hx hx3)
    simp only [w04_ObjectBack.j0]
    rw [if_neg (by simp), Gv.putTree.f_eq hl.ish (by omega), hof]
    rfl
  | true =>
    have hg := (getTree_iff o l).2 hof
    obtain ⟨a, b⟩ := putTree_iff.1 hof
    have ho : o.size ≤ 400000000 := by
      rw [b]
      have := treeT_size a
      omega
    have hge := getT_ev o (by omega)
    rw [hg] at hge
    refine Ev.step (f := fun n => (object_GetTree.f n o).bind fun bt108 => (if bt108.2 = true then ((r04_SameItems.f n bt108.1 l).bind fun t112 => (if t112 = true then (w04_ObjectBack.j1 n s true c.f0 c.f1 c.f2 c.f3 x.f0 x.f1 x.f2 x.f3) else (some false))) else (some false))) (fun n => ?_) (Ev.bind hge ?_)
    · simp only [w04_ObjectBack.j0]
      rw [if_neg (by simp), Gv.putTree.f_eq hl.ish (by omega), hof]
      rfl
    · refine Ev.congr (fun n => if_pos rfl) (Ev.bind (sameI_ev l l (by omega)) ?_)
      rw [(sameI_iff l l).2 rfl]
      exact Ev.congr (fun n => if_pos rfl) (back_j1 c x s hs hc hx hx3)
theorem back_ev (hcl : c.f1.length ≤ 1000000000000000) (hx : x.f0.size ≤ 140737488355328 ∧ x.f2.size ≤ 140737488355328 ∧ x.f3.size ≤ 140737488355328) : Ev (fun n => w04_ObjectBack.f n l c.f0 c.f1 c.f2 c.f3 x.f0 x.f1 x.f2 x.f3 s) true := by
  have hj : Ev (fun n => w04_ObjectBack.j0 n l s true true c.f0 c.f1 c.f2 c.f3 x.f0 x.f1 x.f2 x.f3) true := Ev.step (f := fun _ => some true) (fun n => by simp only [w04_ObjectBack.j0]; exact if_pos trivial) (Ev.now _)
  obtain ⟨b1, hb1, hz1⟩ := greatI_ev l
  obtain ⟨b2, hb2, hz2⟩ := greatC_ev c hcl
  obtain ⟨x0, x2, x3⟩ := hx
  have e1 : wrap64 ((wrap64 ((x.f0.size : Int) + (x.f2.size : Int))) + (x.f3.size : Int)) = (x.f0.size : Int) + (x.f2.size : Int) + (x.f3.size : Int) := by
    rw [w64 ((x.f0.size : Int) + (x.f2.size : Int)) (by omega) (by omega), w64 _ (by omega) (by omega)]
  refine Ev.congr (f := fun n => (w04_GreatItems.f n l).bind fun t104 => (if t104 = true then (w04_ObjectBack.j0 n l s true true c.f0 c.f1 c.f2 c.f3 x.f0 x.f1 x.f2 x.f3) else ((w04_GreatChange.f n c.f0 c.f1 c.f2 c.f3).bind fun t105 => (if t105 = true then (w04_ObjectBack.j0 n l s true true c.f0 c.f1 c.f2 c.f3 x.f0 x.f1 x.f2 x.f3) else (if (s.size : Int) > 9000 then (w04_ObjectBack.j0 n l s true true c.f0 c.f1 c.f2 c.f3 x.f0 x.f1 x.f2 x.f3) else (w04_ObjectBack.j0 n l s true (decide ((x.f0.size : Int) + (x.f2.size : Int) + (x.f3.size : Int) > 9000)) c.f0 c.f1 c.f2 c.f3 x.f0 x.f1 x.f2 x.f3)))))) (fun n => ?_) (Ev.bind hb1 ?_)
  · unfold w04_ObjectBack.f
    rw [e1]; rfl
  · cases b1 with
    | true => exact Ev.congr (fun n => if_pos rfl) hj
    | false =>
      refine Ev.congr (fun n => if_neg (by simp)) (Ev.bind hb2 ?_)
      cases b2 with
      | true => exact Ev.congr (fun n => if_pos rfl) hj
      | false =>
        refine Ev.congr (fun n => if_neg (by simp)) ?_
        by_cases hs : s.size ≤ 9000
        · refine Ev.congr (fun n => if_neg (by omega)) ?_
          by_cases h9 : x.f0.size + x.f2.size + x.f3.size ≤ 9000
          · rw [decide_eq_false (by omega)]
            exact back_j0 l c x s hs (hz1 rfl) (hz2 rfl) ⟨by omega, by omega, by omega⟩ (by omega)
          · rw [decide_eq_true (by omega)]; exact hj
        · exact Ev.congr (fun n => if_pos (by omega)) hj
end
end Go.Proofs.YtefefhhaopjccaaGreatDoor.Ob
