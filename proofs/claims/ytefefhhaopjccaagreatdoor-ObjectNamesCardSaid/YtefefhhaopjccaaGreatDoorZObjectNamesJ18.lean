/- Joined texts: ObHead, ObGiven3, ObWantsP, PObjectNamesx0, PObjectNamesx1, PObjectNamesx2, ObNamesLaw. No condition but what stands in each. -/
import Derived.Test.YtefefhhaopjccaaGreatDoorZObjectNamesJ17
import Derived.Lib.SlBytesConst
import Derived.Test.YtefefhhaopjccaaGreatDoorZObjectNamesJ12
import Derived.Test.YtefefhhaopjccaaGreatDoorProg
import Derived.Below
import Derived.Deep.Draws
import Derived.Deep.AppendLies
import Derived.Maps.AppendAt
import Derived.OwnWalk
import Derived.Laws.BytesArg
import Derived.Laws.MakeOwn
import Derived.Laws.OwnMore
import Derived.Deep.OwnRows
import Derived.Tactics
import Derived.Lib.ConvBytes
import Derived.Laws.Slices
import Derived.WalkKit
import Derived.KernelRfl
import Derived.RowKit3
import Derived.Deep.LoopGhost
import Derived.Deep.QuietTactic
import Derived.BigQuiet
import Derived.WideLaws
import Derived.Deep.DeepCutAuto
import Derived.Deep.CutBlock
import Derived.Deep.RegionHeld3
import Derived.Laws.Rows
import Derived.Lib.AppendStr
import Derived.ArgAppend
import Derived.Laws.IdiomCopy
import Derived.OrdersHeld
import Derived.Laws.BitsLemmas
import Derived.RowKit
import Derived.Test.YtefefhhaopjccaaGreatDoorZObjectNamesJ0
import Derived.Test.YtefefhhaopjccaaGreatDoorZObjectNamesJ2
import Derived.Test.YtefefhhaopjccaaGreatDoorZObjectNamesJ3
namespace Go.Proofs.YtefefhhaopjccaaGreatDoor.Ob
set_option linter.unusedVariables false
set_option linter.unusedSimpArgs false
set_option maxRecDepth 100000
open Go Go.RowKit Go.Proofs.YtefefhhaopjccaaGreatDoorW.PrintWords Go.Proofs.YtefefhhaopjccaaGreatDoorW.PrintLast Go.Proofs.YtefefhhaopjccaaGreatDoorW.PrintMore PObBase
theorem new_C {α : Type} (d : Kd α) (e : TypeId) (W : World) {xs : List α} {inner : List Value} (hr : Reps (d.K (W.alloc (.cells inner.toArray e))) d.sz xs inner) (hm : xs.length ≤ 9223372036854775807) : d.C (W.alloc (.cells inner.toArray e)) (some ⟨W.heap.size, 0, none⟩) xs.length xs := by
  obtain ⟨A, c, hv, _, h⟩ := (OwnRow.lit W W.heap.size hr (Nat.le_refl _) hm : OwnRow (d.K (W.alloc (.cells inner.toArray e))) e d.sz _ _ _ _).reads
  injection hv with h1 h2 h3
  rw [h1]; exact h
theorem name0_walk (w : World) : Calls Tryz.prog 35 #[.slice (some ⟨w.heap.size, 0, none⟩) 7 7] (w.alloc (.cells #[.int .u8 98, .int .u8 108, .int .u8 111, .int .u8 98, .int .u8 32, .int .u8 48, .int .u8 10] 5 (7, 8))) fun e w' => e = .returned (.string (nameS blob0)) ∧ Below w.heap.size w w' := by
  have hC : (Kd.int .u8).C (w.alloc (.cells #[.int .u8 98, .int .u8 108, .int .u8 111, .int .u8 98, .int .u8 32, .int .u8 48, .int .u8 10] 5 (7, 8))) (some ⟨w.heap.size, 0, none⟩) 7 [98, 108, 111, 98, 32, 48, 10] := by
    refine Kd.C_of_reads (enc := Value.int .u8) (d := (0 : Int)) ⟨rfl, by decide, fun _ => ⟨_, rfl, fun j hj => ?_⟩⟩
    have hb : (w.alloc (.cells #[.int .u8 98, .int .u8 108, .int .u8 111, .int .u8 98, .int .u8 32, .int .u8 48, .int .u8 10] 5 (7, 8))).heap[w.heap.size]? = some (.cells #[.int .u8 98, .int .u8 108, .int .u8 111, .int .u8 98, .int .u8 32, .int .u8 48, .int .u8 10] 5 (7, 8)) := by
      show (w.heap.push _)[w.heap.size]? = _
      simp
    rw [add_at, Nat.zero_add]
    unfold World.cell?
    rw [hb]
    rcases (show j = 0 ∨ j = 1 ∨ j = 2 ∨ j = 3 ∨ j = 4 ∨ j = 5 ∨ j = 6 by omega) with rfl | rfl | rfl | rfl | rfl | rfl | rfl <;> rfl
  refine (Dg.rname_calls _ 7 [98, 108, 111, 98, 32, 48, 10] _ hC (Nat.le_refl _) (by decide) (by decide)).mono ?_
  rintro e w' ⟨rfl, hb⟩
  have h1 : Below w.heap.size w (w.alloc (.cells #[.int .u8 98, .int .u8 108, .int .u8 111, .int .u8 98, .int .u8 32, .int .u8 48, .int .u8 10] 5 (7, 8))) := (Below.refl _ _).alloc (Nat.le_refl _) _
  exact ⟨rfl, h1.trans (hb.mono h1.size)⟩
theorem two_items (x y : It) (hx : x.f2.size ≤ 100 ∧ x.f1.size ≤ 100) (hy : y.f2.size ≤ 100 ∧ y.f1.size ≤ 100) (W : World) (ht : Tbl W) : Calls Tryz.prog 19 #[.slice (some ⟨W.heap.size, 0, none⟩) 2 2] (W.alloc (.cells #[.int .i64 x.f0, .string x.f1, .string x.f2, .int .i64 y.f0, .string y.f1, .string y.f2] 54)) fun e w' => e = .returned (.tuple #[.string (putTree [x, y]).1, .bool (putTree [x, y]).2]) ∧ Below W.heap.size W w' := by
  have hb : Below W.heap.size W (W.alloc (.cells #[.int .i64 x.f0, .string x.f1, .string x.f2, .int .i64 y.f0, .string y.f1, .string y.f2] 54)) := (Below.refl _ _).alloc (Nat.le_refl _) _
  have hC := new_C k54 54 W (xs := [x, y]) (((Reps.none _ _).snoc (k54_mk _ x) rfl).snoc (k54_mk _ y) rfl) (by simp)
  refine (putTree_walk _ 2 2 [x, y] _ hC rfl (Nat.le_refl _) (fun z hz => ?_) (by decide) (ht.below hb)).mono ?_
  · rcases List.mem_cons.1 hz with rfl | hz
    · exact ⟨by omega, by omega⟩
    · obtain rfl := List.mem_singleton.1 hz; exact ⟨by omega, by omega⟩
  · rintro e w' ⟨rfl, hb'⟩
    exact ⟨rfl, hb.trans (hb'.mono hb.size)⟩
set_option maxHeartbeats 64000000 in
theorem head_walk (w : World) (ht : Tbl w) : Calls Tryz.prog 10 #[] w fun e w' => e = .returned (.bool true) ∧ Below w.heap.size w w' := by
  have HTB : As (∀ w', Below w.heap.size w w' → Tbl w') := ⟨fun w' hb => ht.below hb⟩
  have hI := id_walk 1 ⟨#[]⟩ (by decide) w ht
  rw [id_0] at hI
  have hN := name0_walk
  have hnm := nm_nameS blob0
  obtain ⟨a, ha_⟩ : ∃ a, nameS blob0 = a := ⟨_, rfl⟩
  rw [ha_] at hnm hI hN
  have hz := nm_size hnm
  have HI := As.mk hI
  have HN := As.mk hN
  have P1 := As.mk (hd1 hnm)
  obtain ⟨o2, h2⟩ := hd2 hnm
  obtain ⟨o3, h3, hs3⟩ := hd3 hnm
  obtain ⟨o4, h4, hs4⟩ := hd4 hnm
  have P2 := As.mk h2
  have P3 := As.mk h3
  have P3w := As.mk (wants_change h3 hs3)
  have P4 := As.mk h4
  have P4r := As.mk (right_label h4 hs4)
  have S3 := As.mk hs3
  have S4 := As.mk hs4
  have HZ := As.mk hz
  have HT1 := As.mk (fun W ht => two_items ⟨3, na, a⟩ ⟨1, nac, a⟩ ⟨by show a.size ≤ _; omega, by show na.size ≤ _; decide⟩ ⟨by show a.size ≤ _; omega, by show nac.size ≤ _; decide⟩ W ht)
  have HT2 := As.mk (fun W ht => two_items ⟨1, nac, a⟩ ⟨3, na, a⟩ ⟨by show a.size ≤ _; omega, by show nac.size ≤ _; decide⟩ ⟨by show a.size ≤ _; omega, by show na.size ≤ _; decide⟩ W ht)
  clear hI hN hnm ha_ h2 h3 h4 hs3 hs4 hz ht
  go_enter Tryz.func10, Tryz.ntmps10
  go_wp2_with (fail)
  refine HI.out.mono ?_
  rintro e w1 ⟨rfl, hb⟩
  have HB1 := As.mk hb
  clear hb
  go_wp2_with (fail)
  refine (HT1.out w1 (HTB.out _ HB1.out)).mono ?_
  rintro e w2 ⟨rfl, hb⟩
  rw [P1.out]
  have HB2 := As.mk (HB1.out.trans (hb.mono HB1.out.size))
  clear hb
  go_wp2_with (fail)
  refine (HT2.out w2 (HTB.out _ HB2.out)).mono ?_
  rintro e w3 ⟨rfl, hb⟩
  rw [P2.out]
  have HB3 := As.mk (HB2.out.trans (hb.mono HB2.out.size))
  clear hb
  go_wp2_with (fail)
  refine (putChange_walk none 0 0 ⟨a, [], nw, nt⟩ ⟨by show a.size ≤ _; have := HZ.out; omega, Nat.zero_le _, (fun p hp => nomatch hp), by show nw.size ≤ _; decide, by show nt.size ≤ _; decide⟩ w3 (Kd.C_nil _ _) rfl (Nat.le_refl _)).mono ?_
  rintro e w4 ⟨rfl, hb⟩
  rw [P3.out]
  have HB4 := As.mk (HB3.out.trans (hb.mono HB3.out.size))
  clear hb
  go_wp2_with (fail)
  refine (wants_walk 3 o3 (by have := S3.out; omega) w4 (HTB.out _ HB4.out)).mono ?_
  rintro e w5 ⟨v, rfl, hR, hb⟩
  rw [P3w.out] at hR
  obtain ⟨A5, c5, rfl, _, hC5⟩ := Kd.R_reads hR
  have HC5 := As.mk hC5
  have HB5 := As.mk (HB4.out.trans (hb.mono HB4.out.size))
  clear hb hR hC5
  go_wp2_with (fail)
  refine (putLabel_walk ⟨a, 1, nn, ⟨#[]⟩⟩ (by show a.size ≤ _; have := HZ.out; omega) (by show nn.size ≤ _; decide) (Nat.zero_le _) w5).mono ?_
  rintro e w6 ⟨rfl, hb⟩
  rw [P4.out]
  have HC6 := As.mk (Kd.C_below HC5.out hb)
  have HB6 := As.mk (HB5.out.trans (hb.mono HB5.out.size))
  clear hb
  have hcv := Lib.run_convert_bytes_const (P := Tryz.prog) w6 62 5 #[.int .u8 98, .int .u8 108, .int .u8 111, .int .u8 98, .int .u8 32, .int .u8 48, .int .u8 10] 7 7 Tryz.underlying62 Tryz.underlying5
  go_wp2_with (fail)
  refine (HN.out _).mono ?_
  rintro e w7 ⟨rfl, hb⟩
  have HC7 := As.mk (Kd.C_below HC6.out hb)
  have HB7 := As.mk (HB6.out.trans (hb.mono HB6.out.size))
  clear hb hcv
  obtain ⟨ad, had, _, hk⟩ := at_T58 HC7.out 0 (by omega) (by show (0 : Int) < 1; decide)
  subst had
  have hk1 : w7.cell? (ad.add 1) = some (.int .i64 2) := hk
  have hk2 : w7.cell? ⟨ad.block, ad.off + 1, none⟩ = some (.int .i64 2) := by rw [← hk1]; rfl
  clear hk
  have R1 := right_walk 4 o4 (by have := S4.out; omega) w7 (HTB.out _ HB7.out)
  rw [P4r.out] at R1
  go_wp2_with (fail)
  refine R1.mono ?_
  rintro e w8 ⟨rfl, hb⟩
  have HB8 := As.mk (HB7.out.trans (hb.mono HB7.out.size))
  clear hb R1 hk1 hk2
  have R2 := right_walk 4 ⟨#[]⟩ (by decide) w8 (HTB.out _ HB8.out)
  rw [right_4e] at R2
  go_wp2_with (fail)
  refine R2.mono ?_
  rintro e w9 ⟨rfl, hb⟩
  have HB9 := As.mk (HB8.out.trans (hb.mono HB8.out.size))
  clear hb R2
  have R3 := right_walk 2 ⟨#[]⟩ (by decide) w9 (HTB.out _ HB9.out)
  rw [right_2e] at R3
  go_wp2_with (fail)
  refine R3.mono ?_
  rintro e w10 ⟨rfl, hb⟩
  have HB10 := As.mk (HB9.out.trans (hb.mono HB9.out.size))
  clear hb R3
  go_wp2_with (fail)
  go_ret
  exact ⟨rfl, HB10.out⟩
namespace Gv
def head.f : Option Bool := some true
theorem head.calls (r : Bool) (w : World) (h : head.f = some r) (ht : Tbl w) : Calls Tryz.prog 10 #[] w fun e w' => e = .returned (.bool r) ∧ Below w.heap.size w w' := by
  obtain rfl := Option.some.inj h
  exact head_walk w ht
end Gv
end Go.Proofs.YtefefhhaopjccaaGreatDoor.Ob

namespace Go.Proofs.YtefefhhaopjccaaGreatDoor.Ob
set_option linter.unusedVariables false
set_option linter.unusedSimpArgs false
open Go Go.RowKit Go.Proofs.YtefefhhaopjccaaGreatDoorW.PrintWords Go.Proofs.YtefefhhaopjccaaGreatDoorW.PrintLast Go.Proofs.YtefefhhaopjccaaGreatDoorW.PrintMore PObBase
namespace Gv
noncomputable def id.f (a0_0 : Int) (a0_1 : ByteArray) : Option ByteArray := if a0_1.size ≤ 400000000 then some (idS a0_0 a0_1) else none
theorem id.f_eq {k : Int} {d : ByteArray} (h : d.size ≤ 400000000) : id.f k d = some (idS k d) := by unfold id.f; rw [if_pos h]
theorem id.calls (a0_0 : Int) (a0_1 : ByteArray) (r : ByteArray) (w : World) (h : id.f a0_0 a0_1 = some r) (ht : Tbl w) :
    Calls Tryz.prog 13 #[.agg #[.int .i64 a0_0, .string a0_1]] w fun e w' => e = .returned (.string r) ∧ Below w.heap.size w w' := by
  unfold id.f at h
  split at h
  · rename_i h0
    obtain rfl := Option.some.inj h
    exact id_walk a0_0 a0_1 h0 w ht
  · cases h
noncomputable def wants.f (a0_0 : Int) (a0_1 : ByteArray) : Option (List Wnt) := if a0_1.size ≤ 400000000 then some (wantsL a0_0 a0_1) else none
theorem wants.f_eq {k : Int} {d : ByteArray} (h : d.size ≤ 400000000) : wants.f k d = some (wantsL k d) := by unfold wants.f; rw [if_pos h]
theorem wants.calls (a0_0 : Int) (a0_1 : ByteArray) (r : List Wnt) (w : World) (h : wants.f a0_0 a0_1 = some r) (ht : Tbl w) :
    Calls Tryz.prog 16 #[.agg #[.int .i64 a0_0, .string a0_1]] w fun e w' => ∃ v0_ : Value, e = .returned (v0_) ∧ Kd.R k58 58 w' w.heap.size (fun _ => True) v0_ r ∧ Below w.heap.size w w' := by
  unfold wants.f at h
  split at h
  · rename_i h0
    obtain rfl := Option.some.inj h
    exact wants_walk a0_0 a0_1 h0 w ht
  · cases h
end Gv
end Go.Proofs.YtefefhhaopjccaaGreatDoor.Ob

namespace Go.Proofs.YtefefhhaopjccaaGreatDoor.Ob
set_option linter.unusedVariables false
set_option linter.unusedSimpArgs false
open Go Go.RowKit Go.Proofs.YtefefhhaopjccaaGreatDoorW.PrintWords Go.Proofs.YtefefhhaopjccaaGreatDoorW.PrintLast Go.Proofs.YtefefhhaopjccaaGreatDoorW.PrintMore PObBase PObDoc PObGet PObRt
def wantI (x : It) : Wnt := ⟨x.f2, kindI x.f0⟩
theorem tree_of {d : ByteArray} (h : rightB 2 d = true) : ∃ l, getTree d = (l, true) ∧ treeB l = true ∧ d = treeT l := by
  rw [rightB_2, Bool.and_eq_true] at h
  have hg : getTree d = ((getTree d).1, true) := Prod.ext rfl h.2
  obtain ⟨a, b⟩ := putTree_iff.1 ((getTree_iff d _).1 hg)
  exact ⟨_, hg, a, b⟩
theorem change_of {d : ByteArray} (h : rightB 3 d = true) : ∃ c, getChange d = (c, true) ∧ changeB c = true ∧ d = bs (changeL c) := by
  rw [rightB_3, Bool.and_eq_true] at h
  have hg : getChange d = ((getChange d).1, true) := Prod.ext rfl h.2
  obtain ⟨a, b⟩ := putChange_iff.1 ((getChange_iff d _).1 hg)
  exact ⟨_, hg, a, b⟩
theorem label_of {d : ByteArray} (h : rightB 4 d = true) : ∃ c, getLabel d = (c, true) ∧ labelB c = true ∧ d = bs (labelL c) := by
  rw [rightB_4, Bool.and_eq_true] at h
  have hg : getLabel d = ((getLabel d).1, true) := Prod.ext rfl h.2
  obtain ⟨a, b⟩ := putLabel_iff.1 ((getLabel_iff d _).1 hg)
  exact ⟨_, hg, a, b⟩
theorem wants_1 (d : ByteArray) : wantsL 1 d = [] := by unfold wantsL; split <;> rfl
theorem wants_2 {d : ByteArray} {l : List It} (h : rightB 2 d = true) (hl : getTree d = (l, true)) : wantsL 2 d = l.map wantI := by rw [wantsL, h, if_pos rfl, if_pos rfl, hl]; rfl
theorem wants_3 {d : ByteArray} {c : Chg} (h : rightB 3 d = true) (hl : getChange d = (c, true)) : wantsL 3 d = ⟨c.f0, 2⟩ :: c.f1.map (fun s => ⟨s, 3⟩) := by rw [wantsL, h, if_pos rfl, if_neg (by decide), if_pos rfl, hl]
theorem wants_4 {d : ByteArray} {c : Lab} (h : rightB 4 d = true) (hl : getLabel d = (c, true)) : wantsL 4 d = [⟨c.f0, c.f1⟩] := by rw [wantsL, h, if_pos rfl, if_neg (by decide), if_neg (by decide), if_pos rfl, hl]
theorem wants_no {k : Int} {d : ByteArray} (h : rightB k d = false) : wantsL k d = [] := by rw [wantsL, h]; rfl
theorem kind_cases {k : Int} {d : ByteArray} (h : rightB k d = true) : k = 1 ∨ k = 2 ∨ k = 3 ∨ k = 4 := by
  have := rightB_kind h
  omega
theorem wants_len (k : Int) (d : ByteArray) : (wantsL k d).length ≤ 256 := by
  cases h : rightB k d with
  | false => rw [wants_no h]; exact Nat.zero_le _
  | true =>
    rcases kind_cases h with rfl | rfl | rfl | rfl
    · rw [wants_1]; exact Nat.zero_le _
    · obtain ⟨l, hl, ht, _⟩ := tree_of h
      rw [wants_2 h hl, List.length_map]
      exact (treeB_parts ht).2
    · obtain ⟨c, hc, ht, _⟩ := change_of h
      rw [wants_3 h hc, List.length_cons, List.length_map]
      have := (change_parts ht).2.2.1
      omega
    · obtain ⟨c, hc, ht, _⟩ := label_of h
      rw [wants_4 h hc]; show 1 ≤ 256; decide
theorem rdW {l : List Wnt} {i : Nat} {x : Wnt} (hx : l[i]? = some x) : rd_T58 l (i : Int) = x := by simp [rd_T58, hx]
end Go.Proofs.YtefefhhaopjccaaGreatDoor.Ob

namespace Go.Proofs.YtefefhhaopjccaaGreatDoor.PObjectNames
open Go.Proofs.YtefefhhaopjccaaGreatDoor.PObBase Go.Proofs.YtefefhhaopjccaaGreatDoor.PObGet Go.Proofs.YtefefhhaopjccaaGreatDoor.PObDoc Go.Proofs.YtefefhhaopjccaaGreatDoor.PObRt
open Go.RowKit Go.Proofs.YtefefhhaopjccaaGreatDoorW.PrintWords Go.Proofs.YtefefhhaopjccaaGreatDoorW.PrintLast Go.Proofs.YtefefhhaopjccaaGreatDoorW.PrintMore
attribute [local go_sem] max2_int min2_int max_two min_two max_three min_three max_four min_four   -- for this text's walks alone
set_option linter.unusedVariables false
set_option linter.unusedSimpArgs false
def errW : Option Int → Value
 | none => .nilIface
 | some c => .iface 0 (.int .i64 c)
theorem errW_none : errW none = .nilIface := rfl
theorem errW_some (c : Int) : errW (some c) = .iface 0 (.int .i64 c) := rfl
end Go.Proofs.YtefefhhaopjccaaGreatDoor.PObjectNames

namespace Go.Proofs.YtefefhhaopjccaaGreatDoor.PObjectNames
open Go.Proofs.YtefefhhaopjccaaGreatDoor.PObBase Go.Proofs.YtefefhhaopjccaaGreatDoor.PObGet Go.Proofs.YtefefhhaopjccaaGreatDoor.PObDoc Go.Proofs.YtefefhhaopjccaaGreatDoor.PObRt
open Go.RowKit Go.Proofs.YtefefhhaopjccaaGreatDoorW.PrintWords Go.Proofs.YtefefhhaopjccaaGreatDoorW.PrintLast Go.Proofs.YtefefhhaopjccaaGreatDoorW.PrintMore
attribute [local go_sem] max2_int min2_int max_two min_two max_three min_three max_four min_four   -- for this text's walks alone
set_option linter.unusedVariables false
set_option linter.unusedSimpArgs false
theorem eqA23 (d : Nat) (w : World) (x0 y0 : Int) (x1 y1 : ByteArray) :
  (Op.equalIn (d + 2) 23 (.agg #[.int .i64 x0, .string x1]) (.agg #[.int .i64 y0, .string y1])).run Tryz.prog w = .ok (x0 == y0 && (x1.toList == y1.toList)) w := by
 refine eqA_of Tryz.underlying23 (by kernel_rfl) ?_
 refine eqf_cons (by rfl) (by go_simp; rfl) (by go_simp; rfl) (by go_simp) ?_
 exact eqf_last (by rfl) (by go_simp; rfl) (by go_simp; rfl) (by go_simp)
end Go.Proofs.YtefefhhaopjccaaGreatDoor.PObjectNames

namespace Go.Proofs.YtefefhhaopjccaaGreatDoor.PObjectNames
open Go.Proofs.YtefefhhaopjccaaGreatDoor.PObBase Go.Proofs.YtefefhhaopjccaaGreatDoor.PObGet Go.Proofs.YtefefhhaopjccaaGreatDoor.PObDoc Go.Proofs.YtefefhhaopjccaaGreatDoor.PObRt
open Go.RowKit Go.Proofs.YtefefhhaopjccaaGreatDoorW.PrintWords Go.Proofs.YtefefhhaopjccaaGreatDoorW.PrintLast Go.Proofs.YtefefhhaopjccaaGreatDoorW.PrintMore
attribute [local go_sem] max2_int min2_int max_two min_two max_three min_three max_four min_four   -- for this text's walks alone
set_option linter.unusedVariables false
set_option linter.unusedSimpArgs false
attribute [local go_sem high] eqA23
mutual
noncomputable def w04_ObjectNames.j0 : Nat → Bool → Bool → Int → ByteArray → Int → ByteArray → Option (Bool)
 | 0, _, _, _, _, _, _ => none
 | k + 1, x5, x19, x102000, x102001, x103000, x103001 => if x19 = true then (some x5) else ((Ob.Gv.id.f x102000 x102001).bind fun t104 => ((PObRt.object_Right.f k x102000 x102001).bind fun t105 => (if t105 = true then ((Ob.Gv.wants.f x102000 x102001).bind fun t109 => (w04_ObjectNames.l0 k x5 t104 t109 0 x102000 x102001 x103000 x103001)) else (if x5 = true then (if t104.toList = ([] : List UInt8) then ((Ob.Gv.wants.f x102000 x102001).bind fun t106 => (some ((t106.length : Int) == 0))) else (some false)) else (some false)))))
noncomputable def w04_ObjectNames.l0 : Nat → Bool → ByteArray → List (S58) → Int → Int → ByteArray → Int → ByteArray → Option (Bool)
 | 0, _, _, _, _, _, _, _, _ => none
 | k + 1, x5, x6, x7, x8, x102000, x102001, x103000, x103001 => if x8 < (x7.length : Int) then (if 0 ≤ x8 then ((PObDoc.r02_Named.f k ((rd_T58 x7 x8).f0)).bind fun t113 => (if t113 = true then (if ((rd_T58 x7 x8).f1) < 1 then (some false) else (if ((rd_T58 x7 x8).f1) > 4 then (some false) else (w04_ObjectNames.l0 k x5 x6 x7 (wrap64 (x8 + 1)) x102000 x102001 x103000 x103001))) else (some false))) else (none)) else (if x5 = true then ((PObDoc.r02_Named.f k x6).bind fun t116 => (if t116 = true then (if (!(x102000 == x103000) || (!(x102001.toList == x103001.toList))) = true then (if x102000 = 1 then (if (x7.length : Int) = 0 then (if x102000 = 3 then (some (decide ((x7.length : Int) > 0))) else (some true)) else (some false)) else (if x102000 = 3 then (some (decide ((x7.length : Int) > 0))) else (some true))) else ((Ob.Gv.id.f x103000 x103001).bind fun t117 => (if t117.toList = x6.toList then (if x102000 = 1 then (if (x7.length : Int) = 0 then (if x102000 = 3 then (some (decide ((x7.length : Int) > 0))) else (some true)) else (some false)) else (if x102000 = 3 then (some (decide ((x7.length : Int) > 0))) else (some true))) else (some false)))) else (some false))) else (some false))
end
noncomputable def w04_ObjectNames.f (k : Nat) (a0_0 : Int) (a0_1 : ByteArray) (a1_0 : Int) (a1_1 : ByteArray) : Option (Bool) := (Ob.Gv.head.f).bind fun t103 => (if (a0_1.size : Int) > 70000 then (w04_ObjectNames.j0 k t103 true a0_0 a0_1 a1_0 a1_1) else (w04_ObjectNames.j0 k t103 (decide ((a1_1.size : Int) > 70000)) a0_0 a0_1 a1_0 a1_1))
set_option maxHeartbeats 8000000 in
set_option maxRecDepth 100000 in
theorem w04_ObjectNames.calls (k : Nat) (a0_0 : Int) (a0_1 : ByteArray) (a1_0 : Int) (a1_1 : ByteArray) (r : Bool) (w : World) (h : w04_ObjectNames.f k a0_0 a0_1 a1_0 a1_1 = some r) (ht_ : Lib.TabIs Tryz.prog w "internal/strconv.uint64pow10" .u64 Lib.pow10Tab) :
  Calls Tryz.prog 8 #[.agg #[.int .i64 a0_0, .string a0_1], .agg #[.int .i64 a1_0, .string a1_1]] w fun e w' => e = .returned (.bool r) ∧ Below w.heap.size w w' := by
 have HTAB_ : Aside0 (∀ w_ : World, Below w.heap.size w w_ → Lib.TabIs Tryz.prog w_ "internal/strconv.uint64pow10" .u64 Lib.pow10Tab) := Aside0.mk (fun w_ hb_ => Lib.tabBelow_of_tabIs ht_ w_ hb_)
 clear ht_
 have hu23 := Tryz.underlying23
 have HB := Aside0.mk (Below.refl w.heap.size w)
 have H : ((Ob.Gv.head.f).bind fun t103 => (if (a0_1.size : Int) > 70000 then (w04_ObjectNames.j0 k t103 true a0_0 a0_1 a1_0 a1_1) else (w04_ObjectNames.j0 k t103 (decide ((a1_1.size : Int) > 70000)) a0_0 a0_1 a1_0 a1_1))) = some r := h
 clear h
 replace H := Option.bind_eq_some_iff.mp H
 obtain ⟨t103, A30, H⟩ := H
 replace H : (if (a0_1.size : Int) > 70000 then (w04_ObjectNames.j0 k t103 true a0_0 a0_1 a1_0 a1_1) else (w04_ObjectNames.j0 k t103 (decide ((a1_1.size : Int) > 70000)) a0_0 a0_1 a1_0 a1_1)) = some r := H
 have A3 := Aside0.mk A30
 clear A30
 have HC4 := Aside0.mk H
 clear H
 go_enter Tryz.func8, Tryz.ntmps8
 go_upto_region 2 with (first | ((with_reducible refine gate_dst (N := 2) rfl ?_); (try (refine gate_guard (by rfl) ?_; dsimp only)); refine box_event ?hg (N := 2) ?hd (cs := #[.int .i64 a0_0, .string a0_1]) (t := 23) ?hr ?_; (case hd => rfl); (case hg => rfl); (case hr => first | (go_simp; done) | (go_simp; rfl)); intro gb101 hg w5 hbox hb; have n0_ := Aside0.mk (below_step (by repeat (first | (with_reducible first | exact HB.out | apply below_alloc | apply pw_below_drewN | apply below_drew1) | exact HB.out)) hb); have n1_ := Aside0.mk (hbox); have n2_ := Aside0.mk ((by rw [hg]; exact (below_size (by repeat (first | (with_reducible first | exact HB.out | apply below_alloc | apply pw_below_drewN | apply below_drew1) | exact HB.out))) : w.heap.size ≤ gb101)); have n3_ := Aside0.mk ((by rw [hg]; exact (below_size (by repeat (first | (with_reducible first | exact HB.out | apply below_alloc | apply pw_below_drewN | apply below_drew1) | exact HB.out))) : w.heap.size ≤ gb101)); clear HB; have HB := n0_; have BK101 := n1_; have GW101 := n2_; have GE101 := n3_; clear n0_ n1_ n2_ n3_; clear hb hbox hg) | ((with_reducible refine gate_dst (N := 3) rfl ?_); (try (refine gate_guard (by rfl) ?_; dsimp only)); refine box_event ?hg (N := 3) ?hd (cs := #[.int .i64 a1_0, .string a1_1]) (t := 23) ?hr ?_; (case hd => rfl); (case hg => rfl); (case hr => first | (go_simp; done) | (go_simp; rfl)); intro gb102 hg w6 hbox hb; have n0_ := Aside0.mk (blk_below (g := gb101) (o := .cells #[.int .i64 a0_0, .string a0_1] 23 (0, 0)) (by (with_reducible repeat (first | refine blk_drewN ?_ _ | refine blk_drew ?_ | refine blk_alloc ?_ _)); exact BK101.out) hb); have n1_ := Aside0.mk (below_step (by repeat (first | (with_reducible first | exact HB.out | apply below_alloc | apply pw_below_drewN | apply below_drew1 | refine below_set ?_ GE101.out) | exact HB.out)) hb); have n2_ := Aside0.mk (hbox); have n3_ := Aside0.mk ((by rw [hg]; exact (below_size (by repeat (first | (with_reducible first | exact HB.out | apply below_alloc | apply pw_below_drewN | apply below_drew1 | refine below_set ?_ GE101.out) | exact HB.out))) : w.heap.size ≤ gb102)); have n4_ := Aside0.mk ((by rw [hg]; exact (below_size (by repeat (first | (with_reducible first | exact HB.out | apply below_alloc | apply pw_below_drewN | apply below_drew1 | refine below_set ?_ GE101.out) | exact HB.out))) : w.heap.size ≤ gb102)); have n5_ := Aside0.mk ((by rw [hg]; exact Nat.ne_of_lt (blk_lt (g := gb101) (o := .cells #[.int .i64 a0_0, .string a0_1] 23 (0, 0)) (by (with_reducible repeat (first | refine blk_drewN ?_ _ | refine blk_drew ?_ | refine blk_alloc ?_ _)); exact BK101.out)) : gb101 ≠ gb102)); have n6_ := Aside0.mk ((by rw [hg]; exact Nat.ne_of_gt (blk_lt (g := gb101) (o := .cells #[.int .i64 a0_0, .string a0_1] 23 (0, 0)) (by (with_reducible repeat (first | refine blk_drewN ?_ _ | refine blk_drew ?_ | refine blk_alloc ?_ _)); exact BK101.out)) : gb102 ≠ gb101)); clear BK101; clear HB; have BK101 := n0_; have HB := n1_; have BK102 := n2_; have GW102 := n3_; have GE102 := n4_; have NB101_102 := n5_; have NB102_101 := n6_; clear n0_ n1_ n2_ n3_ n4_ n5_ n6_; clear hb hbox hg) | ((with_reducible refine gate_callee (f := 10) rfl ?_); refine goesL_ (some 9) rfl rfl Tryz.func10 (by kernel_rfl) rfl #[] rfl (by (try simp only [List.map_toArray, List.map_cons, List.map_nil]); first | done | rfl | (simp only [List.length_drop, List.length_take]; rfl)) ?_; (with_reducible refine (Ob.Gv.head.calls  t103 _ A3.out (HTAB_.out _ (by first | exact Below.refl _ _ | (with_reducible exact Aside0.out (by assumption)) | repeat (first | (with_reducible exact Aside0.out (by assumption)) | apply below_alloc | apply pw_below_drewN | apply below_drew1)))).mono ?_); rintro e w7 ⟨rfl, hb⟩; refine ⟨_, rfl, ?_⟩; have n0_ := Aside0.mk (blk_below (g := gb101) (o := .cells #[.int .i64 a0_0, .string a0_1] 23 (0, 0)) (by (with_reducible repeat (first | refine blk_drewN ?_ _ | refine blk_drew ?_ | refine blk_alloc ?_ _)); exact BK101.out) hb); have n1_ := Aside0.mk (blk_below (g := gb102) (o := .cells #[.int .i64 a1_0, .string a1_1] 23 (0, 0)) (by (with_reducible repeat (first | refine blk_drewN ?_ _ | refine blk_drew ?_ | refine blk_alloc ?_ _)); exact BK102.out) hb); have n2_ := Aside0.mk (below_step (by repeat (first | (with_reducible first | exact HB.out | apply below_alloc | apply pw_below_drewN | apply below_drew1 | refine below_set ?_ GE101.out | refine below_set ?_ GE102.out) | exact HB.out)) hb); clear BK101; clear BK102; clear HB; have BK101 := n0_; have BK102 := n1_; have HB := n2_; clear n0_ n1_ n2_; (try clear hb); (try clear hb2); (try clear hk); (try clear hi)))
 (try simp only [Act.put, List.setIfInBounds_toArray, List.set_cons_zero, List.set_cons_succ])
 go_cut [19] (fun v19 wc => ∃ (kq : Nat) (x19_3 : Bool), v19 = .bool x19_3 ∧ Aside0 (w04_ObjectNames.j0 kq t103 x19_3 a0_0 a0_1 a1_0 a1_1 = some r) ∧ Aside0 (kq ≤ k) ∧ Aside0 (wc.heap[gb101]? = some (.cells #[.int .i64 a0_0, .string a0_1] 23 (0, 0))) ∧ Aside0 (wc.heap[gb102]? = some (.cells #[.int .i64 a1_0, .string a1_1] 23 (0, 0))) ∧ Aside0 (Below w.heap.size w wc))
 case first =>
  have H := HC4.out
  clear HC4
  by_cases c8 : (a0_1.size : Int) > 70000
  ·
   rw [if_pos c8] at H
   have c8b0 : decide (70000 < (a0_1.size : Int)) = true := decide_eq_true c8
   have c8b1 : decide (70000 < a0_1.size) = true := decide_eq_true (by omega)
   clear c8
   (first | rw [c8b0] | (simp only [i64_w, i32_w]; rw [c8b0]) | skip)
   have H' := Aside0.mk H
   clear H
   have hnb9 := NB101_102.out
   have hnc9 := NB102_101.out
   have hcz10_0 : w7.cell? ⟨gb101, 0, none⟩ = some (.int .i64 a0_0) := (blk_cell BK101.out 0).trans rfl
   have hcz10_1 : w7.cell? ⟨gb101, 1, none⟩ = some (.string a0_1) := (blk_cell BK101.out 1).trans rfl
   have hfz10_0 := blk_frozen BK101.out 0
   have hfz10_1 := blk_frozen BK101.out 1
   go_wp2
   go_meet
   case rel => exact ⟨_, (true), (by first | rfl | (simp; done) | (simp [*]; done)), H', ⟨by first | omega | exact Nat.le_refl _⟩, ⟨by (with_reducible repeat (first | refine blk_drewN ?_ _ | refine blk_drew ?_ | refine blk_alloc ?_ _)); exact BK101.out⟩, ⟨by (with_reducible repeat (first | refine blk_drewN ?_ _ | refine blk_drew ?_ | refine blk_alloc ?_ _)); exact BK102.out⟩, ⟨by repeat (first | (with_reducible first | exact HB.out | apply below_alloc | apply pw_below_drewN | apply below_drew1 | refine below_set ?_ GE101.out | refine below_set ?_ GE102.out) | exact HB.out)⟩⟩
  ·
   rw [if_neg c8] at H
   have c8b0 : decide (70000 < (a0_1.size : Int)) = false := decide_eq_false c8
   have c8b1 : decide (70000 < a0_1.size) = false := decide_eq_false (by omega)
   clear c8
   (first | rw [c8b0] | (simp only [i64_w, i32_w]; rw [c8b0]) | skip)
   have H' := Aside0.mk H
   clear H
   have hnb11 := NB101_102.out
   have hnc11 := NB102_101.out
   have hcz12_0 : w7.cell? ⟨gb101, 0, none⟩ = some (.int .i64 a0_0) := (blk_cell BK101.out 0).trans rfl
   have hcz12_1 : w7.cell? ⟨gb101, 1, none⟩ = some (.string a0_1) := (blk_cell BK101.out 1).trans rfl
   have hfz12_0 := blk_frozen BK101.out 0
   have hfz12_1 := blk_frozen BK101.out 1
   have hcz13_0 : w7.cell? ⟨gb102, 0, none⟩ = some (.int .i64 a1_0) := (blk_cell BK102.out 0).trans rfl
   have hcz13_1 : w7.cell? ⟨gb102, 1, none⟩ = some (.string a1_1) := (blk_cell BK102.out 1).trans rfl
   have hfz13_0 := blk_frozen BK102.out 0
   have hfz13_1 := blk_frozen BK102.out 1
   go_wp2
   go_meet
   case rel => exact ⟨_, (decide ((a1_1.size : Int) > 70000)), (by first | rfl | (simp; done) | (simp [*]; done)), H', ⟨by first | omega | exact Nat.le_refl _⟩, ⟨by (with_reducible repeat (first | refine blk_drewN ?_ _ | refine blk_drew ?_ | refine blk_alloc ?_ _)); exact BK101.out⟩, ⟨by (with_reducible repeat (first | refine blk_drewN ?_ _ | refine blk_drew ?_ | refine blk_alloc ?_ _)); exact BK102.out⟩, ⟨by repeat (first | (with_reducible first | exact HB.out | apply below_alloc | apply pw_below_drewN | apply below_drew1 | refine below_set ?_ GE101.out | refine below_set ?_ GE102.out) | exact HB.out)⟩⟩
 case rest =>
  clear HC4
  try clear c1
  try clear p2
  try clear c8
  try clear c8b0
  try clear c8b1
  try clear c9
  try clear c10
  try clear c11
  try clear hcz10_0
  try clear hcz10_1
  try clear hcz12_0
  try clear hcz12_1
  try clear hcz13_0
  try clear hcz13_1
  try clear hfz10_0
  try clear hfz10_1
  try clear hfz12_0
  try clear hfz12_1
  try clear hfz13_0
  try clear hfz13_1
  obtain ⟨kq, x19_3, rfl, HA, HJ3, BK101, BK102, HB⟩ := hcut
  cases kq with
  | zero => exact absurd HA.out (by simp [w04_ObjectNames.j0])
  | succ kj3 =>
   have H := HA.out
   clear HA
   simp only [w04_ObjectNames.j0] at H
   by_cases c14 : x19_3 = true
   ·
    subst c14
    have H1 : (some t103) = some r := by rw [if_pos rfl] at H; exact H
    clear H
    have H := H1
    clear H1
    obtain rfl := Option.some.inj H
    go_wp2
    go_ret
    exact ⟨by first | rfl | (simp [errW_none, errW_some] <;> rfl) | (simp [*, errW_none, errW_some] <;> rfl), by repeat (first | (with_reducible first | exact HB.out | apply below_alloc | apply pw_below_drewN | apply below_drew1 | refine below_set ?_ GE101.out | refine below_set ?_ GE102.out) | exact HB.out)⟩
   ·
    replace c14 := Bool.eq_false_iff.mpr c14
    subst c14
    have H1 : ((Ob.Gv.id.f a0_0 a0_1).bind fun t104 => ((PObRt.object_Right.f kj3 a0_0 a0_1).bind fun t105 => (if t105 = true then ((Ob.Gv.wants.f a0_0 a0_1).bind fun t109 => (w04_ObjectNames.l0 kj3 t103 t104 t109 0 a0_0 a0_1 a1_0 a1_1)) else (if t103 = true then (if t104.toList = ([] : List UInt8) then ((Ob.Gv.wants.f a0_0 a0_1).bind fun t106 => (some ((t106.length : Int) == 0))) else (some false)) else (some false))))) = some r := by rw [if_neg (show ¬ (false = true) by decide)] at H; exact H
    clear H
    have H := H1
    clear H1
    replace H := Option.bind_eq_some_iff.mp H
    obtain ⟨t104, A150, H⟩ := H
    replace H : ((PObRt.object_Right.f kj3 a0_0 a0_1).bind fun t105 => (if t105 = true then ((Ob.Gv.wants.f a0_0 a0_1).bind fun t109 => (w04_ObjectNames.l0 kj3 t103 t104 t109 0 a0_0 a0_1 a1_0 a1_1)) else (if t103 = true then (if t104.toList = ([] : List UInt8) then ((Ob.Gv.wants.f a0_0 a0_1).bind fun t106 => (some ((t106.length : Int) == 0))) else (some false)) else (some false)))) = some r := H
    have A15 := Aside0.mk A150
    clear A150
    replace H := Option.bind_eq_some_iff.mp H
    obtain ⟨t105, A160, H⟩ := H
    replace H : (if t105 = true then ((Ob.Gv.wants.f a0_0 a0_1).bind fun t109 => (w04_ObjectNames.l0 kj3 t103 t104 t109 0 a0_0 a0_1 a1_0 a1_1)) else (if t103 = true then (if t104.toList = ([] : List UInt8) then ((Ob.Gv.wants.f a0_0 a0_1).bind fun t106 => (some ((t106.length : Int) == 0))) else (some false)) else (some false))) = some r := H
    have A16 := Aside0.mk A160
    clear A160
    by_cases c17 : t105 = true
    ·
     subst c17
     have H1 : ((Ob.Gv.wants.f a0_0 a0_1).bind fun t109 => (w04_ObjectNames.l0 kj3 t103 t104 t109 0 a0_0 a0_1 a1_0 a1_1)) = some r := by rw [if_pos rfl] at H; exact H
     clear H
     have H := H1
     clear H1
     replace H := Option.bind_eq_some_iff.mp H
     obtain ⟨t109, A180, H⟩ := H
     replace H : (w04_ObjectNames.l0 kj3 t103 t104 t109 0 a0_0 a0_1 a1_0 a1_1) = some r := H
     have A18 := Aside0.mk A180
     clear A180
     have H' := Aside0.mk H
     clear H
     have hnb19 := NB101_102.out
     have hnc19 := NB102_101.out
     have hcz20_0 : wc.cell? ⟨gb101, 0, none⟩ = some (.int .i64 a0_0) := (blk_cell BK101.out 0).trans rfl
     have hcz20_1 : wc.cell? ⟨gb101, 1, none⟩ = some (.string a0_1) := (blk_cell BK101.out 1).trans rfl
     have hfz20_0 := blk_frozen BK101.out 0
     have hfz20_1 := blk_frozen BK101.out 1
     go_wp2_with (first | ((with_reducible refine gate_callee (f := 13) rfl ?_); refine goesL_ (some 22) rfl rfl Tryz.func13 (by kernel_rfl) rfl #[.agg #[.int .i64 a0_0, .string a0_1]] rfl (by (try simp only [List.map_toArray, List.map_cons, List.map_nil]); first | done | rfl | (simp only [List.length_drop, List.length_take]; rfl)) ?_; (with_reducible refine (Ob.Gv.id.calls a0_0 a0_1 t104 _ A15.out (HTAB_.out _ (by first | exact Below.refl _ _ | (with_reducible exact Aside0.out (by assumption)) | repeat (first | (with_reducible exact Aside0.out (by assumption)) | apply below_alloc | apply pw_below_drewN | apply below_drew1)))).mono ?_); rintro e w21 ⟨rfl, hb⟩; refine ⟨_, rfl, ?_⟩; have n0_ := Aside0.mk (blk_below (g := gb101) (o := .cells #[.int .i64 a0_0, .string a0_1] 23 (0, 0)) (by (with_reducible repeat (first | refine blk_drewN ?_ _ | refine blk_drew ?_ | refine blk_alloc ?_ _)); exact BK101.out) hb); have n1_ := Aside0.mk (blk_below (g := gb102) (o := .cells #[.int .i64 a1_0, .string a1_1] 23 (0, 0)) (by (with_reducible repeat (first | refine blk_drewN ?_ _ | refine blk_drew ?_ | refine blk_alloc ?_ _)); exact BK102.out) hb); have n2_ := Aside0.mk (below_step (by repeat (first | (with_reducible first | exact HB.out | apply below_alloc | apply pw_below_drewN | apply below_drew1 | refine below_set ?_ GE101.out | refine below_set ?_ GE102.out) | exact HB.out)) hb); clear BK101; clear BK102; clear HB; have BK101 := n0_; have BK102 := n1_; have HB := n2_; clear n0_ n1_ n2_; (try clear hb); (try clear hb2); (try clear hk); (try clear hi); have hcz22_0 : w21.cell? ⟨gb101, 0, none⟩ = some (.int .i64 a0_0) := (blk_cell BK101.out 0).trans rfl; have hcz22_1 : w21.cell? ⟨gb101, 1, none⟩ = some (.string a0_1) := (blk_cell BK101.out 1).trans rfl; have hfz22_0 := blk_frozen BK101.out 0; have hfz22_1 := blk_frozen BK101.out 1) | ((with_reducible refine gate_callee (f := 11) rfl ?_); refine goesL_ (some 24) rfl rfl Tryz.func11 (by kernel_rfl) rfl #[.agg #[.int .i64 a0_0, .string a0_1]] rfl (by (try simp only [List.map_toArray, List.map_cons, List.map_nil]); first | done | rfl | (simp only [List.length_drop, List.length_take]; rfl)) ?_; (with_reducible refine (PObRt.object_Right.calls kj3 a0_0 a0_1 true _ A16.out (HTAB_.out _ (by first | exact Below.refl _ _ | (with_reducible exact Aside0.out (by assumption)) | repeat (first | (with_reducible exact Aside0.out (by assumption)) | apply below_alloc | apply pw_below_drewN | apply below_drew1)))).mono ?_); rintro e w23 ⟨rfl, hb⟩; refine ⟨_, rfl, ?_⟩; have n0_ := Aside0.mk (blk_below (g := gb101) (o := .cells #[.int .i64 a0_0, .string a0_1] 23 (0, 0)) (by (with_reducible repeat (first | refine blk_drewN ?_ _ | refine blk_drew ?_ | refine blk_alloc ?_ _)); exact BK101.out) hb); have n1_ := Aside0.mk (blk_below (g := gb102) (o := .cells #[.int .i64 a1_0, .string a1_1] 23 (0, 0)) (by (with_reducible repeat (first | refine blk_drewN ?_ _ | refine blk_drew ?_ | refine blk_alloc ?_ _)); exact BK102.out) hb); have n2_ := Aside0.mk (below_step (by repeat (first | (with_reducible first | exact HB.out | apply below_alloc | apply pw_below_drewN | apply below_drew1 | refine below_set ?_ GE101.out | refine below_set ?_ GE102.out) | exact HB.out)) hb); clear BK101; clear BK102; clear HB; have BK101 := n0_; have BK102 := n1_; have HB := n2_; clear n0_ n1_ n2_; (try clear hb); (try clear hb2); (try clear hk); (try clear hi); have hcz24_0 : w23.cell? ⟨gb101, 0, none⟩ = some (.int .i64 a0_0) := (blk_cell BK101.out 0).trans rfl; have hcz24_1 : w23.cell? ⟨gb101, 1, none⟩ = some (.string a0_1) := (blk_cell BK101.out 1).trans rfl; have hfz24_0 := blk_frozen BK101.out 0; have hfz24_1 := blk_frozen BK101.out 1) | ((with_reducible refine gate_callee (f := 16) rfl ?_); refine goesL_ (some 38) rfl rfl Tryz.func16 (by kernel_rfl) rfl #[.agg #[.int .i64 a0_0, .string a0_1]] rfl (by (try simp only [List.map_toArray, List.map_cons, List.map_nil]); first | done | rfl | (simp only [List.length_drop, List.length_take]; rfl)) ?_; (with_reducible refine (Ob.Gv.wants.calls a0_0 a0_1 t109 _ A18.out (HTAB_.out _ (by first | exact Below.refl _ _ | (with_reducible exact Aside0.out (by assumption)) | repeat (first | (with_reducible exact Aside0.out (by assumption)) | apply below_alloc | apply pw_below_drewN | apply below_drew1)))).mono ?_); rintro e w25 ⟨v110, rfl, ho0, hb⟩; refine ⟨_, rfl, ?_⟩; have n0_ := Aside0.mk (Kd.R_lower ho0 (below_size (by repeat (first | (with_reducible first | exact HB.out | apply below_alloc | apply pw_below_drewN | apply below_drew1 | refine below_set ?_ GE101.out | refine below_set ?_ GE102.out) | exact HB.out)))); have n1_ := Aside0.mk (blk_below (g := gb101) (o := .cells #[.int .i64 a0_0, .string a0_1] 23 (0, 0)) (by (with_reducible repeat (first | refine blk_drewN ?_ _ | refine blk_drew ?_ | refine blk_alloc ?_ _)); exact BK101.out) hb); have n2_ := Aside0.mk (blk_below (g := gb102) (o := .cells #[.int .i64 a1_0, .string a1_1] 23 (0, 0)) (by (with_reducible repeat (first | refine blk_drewN ?_ _ | refine blk_drew ?_ | refine blk_alloc ?_ _)); exact BK102.out) hb); have n3_ := Aside0.mk (below_step (by repeat (first | (with_reducible first | exact HB.out | apply below_alloc | apply pw_below_drewN | apply below_drew1 | refine below_set ?_ GE101.out | refine below_set ?_ GE102.out) | exact HB.out)) hb); clear BK101; clear BK102; clear HB; have HO111 := n0_; have BK101 := n1_; have BK102 := n2_; have HB := n3_; clear n0_ n1_ n2_ n3_; (try clear hb); (try clear hb2); (try clear hk); (try clear hi); (try clear ho0)))
     go_loopg [8] kj3 (fun kq v8 w' => ∃ (x8_2 : Int), v8 = .int .i64 x8_2 ∧ Aside0 (w04_ObjectNames.l0 kq t103 t104 t109 x8_2 a0_0 a0_1 a1_0 a1_1 = some r) ∧ Aside0 (kq ≤ kj3) ∧ Aside0 (Kd.R k58 58 w' w.heap.size (fun _ => True) v110 t109) ∧ Aside0 (w'.heap[gb101]? = some (.cells #[.int .i64 a0_0, .string a0_1] 23 (0, 0))) ∧ Aside0 (w'.heap[gb102]? = some (.cells #[.int .i64 a1_0, .string a1_1] 23 (0, 0))) ∧ Aside0 (Below w.heap.size w w'))
     case atStart => exact ⟨(0), (by first | rfl | (simp; done) | (simp [*]; done)), H', ⟨Nat.le_refl _⟩, ⟨by (with_reducible repeat (first | apply Kd.R_alloc | apply Kd.R_drewN | apply Kd.R_drew)); exact HO111.out⟩, ⟨by (with_reducible repeat (first | refine blk_drewN ?_ _ | refine blk_drew ?_ | refine blk_alloc ?_ _)); exact BK101.out⟩, ⟨by (with_reducible repeat (first | refine blk_drewN ?_ _ | refine blk_drew ?_ | refine blk_alloc ?_ _)); exact BK102.out⟩, ⟨by repeat (first | (with_reducible first | exact HB.out | apply below_alloc | apply pw_below_drewN | apply below_drew1 | refine below_set ?_ GE101.out | refine below_set ?_ GE102.out) | exact HB.out)⟩⟩
     case round =>
      clear H'
      try clear c1
      try clear p2
      try clear c8
      try clear c8b0
      try clear c8b1
      try clear c9
      try clear c10
      try clear c11
      try clear c13
      try clear c14
      try clear c16
      try clear c17
      try clear c19
      try clear hcz10_0
      try clear hcz10_1
      try clear hcz12_0
      try clear hcz12_1
      try clear hcz13_0
      try clear hcz13_1
      try clear hcz20_0
      try clear hcz20_1
      try clear hcz22_0
      try clear hcz22_1
      try clear hcz24_0
      try clear hcz24_1
      try clear hfz10_0
      try clear hfz10_1
      try clear hfz12_0
      try clear hfz12_1
      try clear hfz13_0
      try clear hfz13_1
      try clear hfz20_0
      try clear hfz20_1
      try clear hfz22_0
      try clear hfz22_1
      try clear hfz24_0
      try clear hfz24_1
      try clear p2
      obtain ⟨x8_2, rfl, HA, HK2, HO_7, BK101, BK102, HB⟩ := hrel
      cases gk with
      | zero => exact absurd HA.out (by simp [w04_ObjectNames.l0])
      | succ k2 =>
       have H := HA.out
       clear HA
       simp only [w04_ObjectNames.l0] at H
       by_cases c26 : x8_2 < (t109.length : Int)
       ·
        rw [if_pos c26] at H
        have c26b0 : decide (x8_2 < (t109.length : Int)) = true := decide_eq_true c26
        clear c26
        by_cases c27 : 0 ≤ x8_2
        ·
         rw [if_pos c27] at H
         have c27b0 : decide (0 ≤ x8_2) = true := decide_eq_true c27
         clear c27
         replace H := Option.bind_eq_some_iff.mp H
         obtain ⟨t113, A280, H⟩ := H
         replace H : (if t113 = true then (if ((rd_T58 t109 x8_2).f1) < 1 then (some false) else (if ((rd_T58 t109 x8_2).f1) > 4 then (some false) else (w04_ObjectNames.l0 k2 t103 t104 t109 (wrap64 (x8_2 + 1)) a0_0 a0_1 a1_0 a1_1))) else (some false)) = some r := H
         have A28 := Aside0.mk A280
         clear A280
         by_cases c29 : t113 = true
         ·
          subst c29
          have H1 : (if ((rd_T58 t109 x8_2).f1) < 1 then (some false) else (if ((rd_T58 t109 x8_2).f1) > 4 then (some false) else (w04_ObjectNames.l0 k2 t103 t104 t109 (wrap64 (x8_2 + 1)) a0_0 a0_1 a1_0 a1_1))) = some r := by rw [if_pos rfl] at H; exact H
          clear H
          have H := H1
          clear H1
          by_cases c30 : ((rd_T58 t109 x8_2).f1) < 1
          ·
           rw [if_pos c30] at H
           have c30b0 : decide (((rd_T58 t109 x8_2).f1) < 1) = true := decide_eq_true c30
           clear c30
           obtain rfl := Option.some.inj H
           obtain ⟨Ao31, co31, eo31⟩ := Kd.R_slice HO_7.out
           subst eo31
           have p112 : 0 ≤ (x8_2 : Int) := oda_
           have q112 : x8_2 < (t109.length : Int) := oda_
           obtain ⟨ad112, e112, hx112_0, hx112_1⟩ := at_T58 (Kd.R_reads' HO_7.out).2.2 x8_2 p112 q112
           cases e112
           replace p112 := eq_true p112
           replace q112 := eq_true q112
           go_wp2_with (first | ((with_reducible refine gate_callee (f := 34) rfl ?_); refine goesL_ (some 50) rfl rfl Tryz.func34 (by kernel_rfl) rfl #[.string ((rd_T58 t109 x8_2).f0)] rfl (by (try simp only [List.map_toArray, List.map_cons, List.map_nil]); first | done | rfl | (simp only [List.length_drop, List.length_take]; rfl)) ?_; (with_reducible refine (PObDoc.r02_Named.calls k2 ((rd_T58 t109 x8_2).f0) true _ A28.out).mono ?_); rintro e w' ⟨rfl, ⟨nd, rfl⟩⟩; refine ⟨_, rfl, ?_⟩; have p114 : 0 ≤ (x8_2 : Int) := oda_; have q114 : x8_2 < (t109.length : Int) := oda_; obtain ⟨ad114, e114, hx114_0, hx114_1⟩ := at_T58 (Kd.R_reads' HO_7.out).2.2 x8_2 p114 q114; obtain rfl : ad112 = ad114 := (by injection e114); replace p114 := eq_true p114; replace q114 := eq_true q114))
           go_ret
           exact ⟨by first | rfl | (simp [errW_none, errW_some] <;> rfl) | (simp [*, errW_none, errW_some] <;> rfl), by repeat (first | (with_reducible first | exact HB.out | apply below_alloc | apply pw_below_drewN | apply below_drew1 | refine below_set ?_ GE101.out | refine below_set ?_ GE102.out) | exact HB.out)⟩
          ·
           rw [if_neg c30] at H
           have c30b0 : decide (((rd_T58 t109 x8_2).f1) < 1) = false := decide_eq_false c30
           clear c30
           by_cases c32 : ((rd_T58 t109 x8_2).f1) > 4
           ·
            rw [if_pos c32] at H
            have c32b0 : decide (4 < ((rd_T58 t109 x8_2).f1)) = true := decide_eq_true c32
            clear c32
            obtain rfl := Option.some.inj H
            obtain ⟨Ao33, co33, eo33⟩ := Kd.R_slice HO_7.out
            subst eo33
            have p112 : 0 ≤ (x8_2 : Int) := oda_
            have q112 : x8_2 < (t109.length : Int) := oda_
            obtain ⟨ad112, e112, hx112_0, hx112_1⟩ := at_T58 (Kd.R_reads' HO_7.out).2.2 x8_2 p112 q112
            cases e112
            replace p112 := eq_true p112
            replace q112 := eq_true q112
            go_wp2_with (first | ((with_reducible refine gate_callee (f := 34) rfl ?_); refine goesL_ (some 50) rfl rfl Tryz.func34 (by kernel_rfl) rfl #[.string ((rd_T58 t109 x8_2).f0)] rfl (by (try simp only [List.map_toArray, List.map_cons, List.map_nil]); first | done | rfl | (simp only [List.length_drop, List.length_take]; rfl)) ?_; (with_reducible refine (PObDoc.r02_Named.calls k2 ((rd_T58 t109 x8_2).f0) true _ A28.out).mono ?_); rintro e w' ⟨rfl, ⟨nd, rfl⟩⟩; refine ⟨_, rfl, ?_⟩; have p114 : 0 ≤ (x8_2 : Int) := oda_; have q114 : x8_2 < (t109.length : Int) := oda_; obtain ⟨ad114, e114, hx114_0, hx114_1⟩ := at_T58 (Kd.R_reads' HO_7.out).2.2 x8_2 p114 q114; obtain rfl : ad112 = ad114 := (by injection e114); replace p114 := eq_true p114; replace q114 := eq_true q114; have p115 : 0 ≤ (x8_2 : Int) := oda_; have q115 : x8_2 < (t109.length : Int) := oda_; obtain ⟨ad115, e115, hx115_0, hx115_1⟩ := at_T58 (Kd.R_reads' HO_7.out).2.2 x8_2 p115 q115; obtain rfl : ad112 = ad115 := (by injection e115); replace p115 := eq_true p115; replace q115 := eq_true q115))
            go_ret
            exact ⟨by first | rfl | (simp [errW_none, errW_some] <;> rfl) | (simp [*, errW_none, errW_some] <;> rfl), by repeat (first | (with_reducible first | exact HB.out | apply below_alloc | apply pw_below_drewN | apply below_drew1 | refine below_set ?_ GE101.out | refine below_set ?_ GE102.out) | exact HB.out)⟩
           ·
            rw [if_neg c32] at H
            have c32b0 : decide (4 < ((rd_T58 t109 x8_2).f1)) = false := decide_eq_false c32
            clear c32
            have H' := Aside0.mk H
            clear H
            obtain ⟨Ao34, co34, eo34⟩ := Kd.R_slice HO_7.out
            subst eo34
            have p112 : 0 ≤ (x8_2 : Int) := oda_
            have q112 : x8_2 < (t109.length : Int) := oda_
            obtain ⟨ad112, e112, hx112_0, hx112_1⟩ := at_T58 (Kd.R_reads' HO_7.out).2.2 x8_2 p112 q112
            cases e112
            replace p112 := eq_true p112
            replace q112 := eq_true q112
            go_wp2_with (first | ((with_reducible refine gate_callee (f := 34) rfl ?_); refine goesL_ (some 50) rfl rfl Tryz.func34 (by kernel_rfl) rfl #[.string ((rd_T58 t109 x8_2).f0)] rfl (by (try simp only [List.map_toArray, List.map_cons, List.map_nil]); first | done | rfl | (simp only [List.length_drop, List.length_take]; rfl)) ?_; (with_reducible refine (PObDoc.r02_Named.calls k2 ((rd_T58 t109 x8_2).f0) true _ A28.out).mono ?_); rintro e w' ⟨rfl, ⟨nd, rfl⟩⟩; refine ⟨_, rfl, ?_⟩; have p114 : 0 ≤ (x8_2 : Int) := oda_; have q114 : x8_2 < (t109.length : Int) := oda_; obtain ⟨ad114, e114, hx114_0, hx114_1⟩ := at_T58 (Kd.R_reads' HO_7.out).2.2 x8_2 p114 q114; obtain rfl : ad112 = ad114 := (by injection e114); replace p114 := eq_true p114; replace q114 := eq_true q114; have p115 : 0 ≤ (x8_2 : Int) := oda_; have q115 : x8_2 < (t109.length : Int) := oda_; obtain ⟨ad115, e115, hx115_0, hx115_1⟩ := at_T58 (Kd.R_reads' HO_7.out).2.2 x8_2 p115 q115; obtain rfl : ad112 = ad115 := (by injection e115); replace p115 := eq_true p115; replace q115 := eq_true q115))
            go_roundg k2
            case measure => have := HJ3.out; have := HK2.out; omega
            case rel => exact ⟨(wrap64 (x8_2 + 1)), (by first | rfl | (simp; done) | (simp [*]; done)), H', ⟨by have := HJ3.out; have := HK2.out; omega⟩, ⟨by (with_reducible repeat (first | apply Kd.R_alloc | apply Kd.R_drewN | apply Kd.R_drew)); exact HO_7.out⟩, ⟨by (with_reducible repeat (first | refine blk_drewN ?_ _ | refine blk_drew ?_ | refine blk_alloc ?_ _)); exact BK101.out⟩, ⟨by (with_reducible repeat (first | refine blk_drewN ?_ _ | refine blk_drew ?_ | refine blk_alloc ?_ _)); exact BK102.out⟩, ⟨by repeat (first | (with_reducible first | exact HB.out | apply below_alloc | apply pw_below_drewN | apply below_drew1 | refine below_set ?_ GE101.out | refine below_set ?_ GE102.out) | exact HB.out)⟩⟩
         ·
          replace c29 := Bool.eq_false_iff.mpr c29
          subst c29
          have H1 : (some false) = some r := by rw [if_neg (show ¬ (false = true) by decide)] at H; exact H
          clear H
          have H := H1
          clear H1
          obtain rfl := Option.some.inj H
          obtain ⟨Ao35, co35, eo35⟩ := Kd.R_slice HO_7.out
          subst eo35
          have p112 : 0 ≤ (x8_2 : Int) := oda_
          have q112 : x8_2 < (t109.length : Int) := oda_
          obtain ⟨ad112, e112, hx112_0, hx112_1⟩ := at_T58 (Kd.R_reads' HO_7.out).2.2 x8_2 p112 q112
          cases e112
          replace p112 := eq_true p112
          replace q112 := eq_true q112
          go_wp2_with (first | ((with_reducible refine gate_callee (f := 34) rfl ?_); refine goesL_ (some 50) rfl rfl Tryz.func34 (by kernel_rfl) rfl #[.string ((rd_T58 t109 x8_2).f0)] rfl (by (try simp only [List.map_toArray, List.map_cons, List.map_nil]); first | done | rfl | (simp only [List.length_drop, List.length_take]; rfl)) ?_; (with_reducible refine (PObDoc.r02_Named.calls k2 ((rd_T58 t109 x8_2).f0) false _ A28.out).mono ?_); rintro e w' ⟨rfl, ⟨nd, rfl⟩⟩; refine ⟨_, rfl, ?_⟩))
          go_ret
          exact ⟨by first | rfl | (simp [errW_none, errW_some] <;> rfl) | (simp [*, errW_none, errW_some] <;> rfl), by repeat (first | (with_reducible first | exact HB.out | apply below_alloc | apply pw_below_drewN | apply below_drew1 | refine below_set ?_ GE101.out | refine below_set ?_ GE102.out) | exact HB.out)⟩
        ·
         rw [if_neg c27] at H
         exact absurd H (by simp)
       ·
        rw [if_neg c26] at H
        have c26b0 : decide (x8_2 < (t109.length : Int)) = false := decide_eq_false c26
        clear c26
        by_cases c36 : t103 = true
        ·
         subst c36
         have H1 : ((PObDoc.r02_Named.f k2 t104).bind fun t116 => (if t116 = true then (if (!(a0_0 == a1_0) || (!(a0_1.toList == a1_1.toList))) = true then (if a0_0 = 1 then (if (t109.length : Int) = 0 then (if a0_0 = 3 then (some (decide ((t109.length : Int) > 0))) else (some true)) else (some false)) else (if a0_0 = 3 then (some (decide ((t109.length : Int) > 0))) else (some true))) else ((Ob.Gv.id.f a1_0 a1_1).bind fun t117 => (if t117.toList = t104.toList then (if a0_0 = 1 then (if (t109.length : Int) = 0 then (if a0_0 = 3 then (some (decide ((t109.length : Int) > 0))) else (some true)) else (some false)) else (if a0_0 = 3 then (some (decide ((t109.length : Int) > 0))) else (some true))) else (some false)))) else (some false))) = some r := by rw [if_pos rfl] at H; exact H
         clear H
         have H := H1
         clear H1
         replace H := Option.bind_eq_some_iff.mp H
         obtain ⟨t116, A370, H⟩ := H
         replace H : (if t116 = true then (if (!(a0_0 == a1_0) || (!(a0_1.toList == a1_1.toList))) = true then (if a0_0 = 1 then (if (t109.length : Int) = 0 then (if a0_0 = 3 then (some (decide ((t109.length : Int) > 0))) else (some true)) else (some false)) else (if a0_0 = 3 then (some (decide ((t109.length : Int) > 0))) else (some true))) else ((Ob.Gv.id.f a1_0 a1_1).bind fun t117 => (if t117.toList = t104.toList then (if a0_0 = 1 then (if (t109.length : Int) = 0 then (if a0_0 = 3 then (some (decide ((t109.length : Int) > 0))) else (some true)) else (some false)) else (if a0_0 = 3 then (some (decide ((t109.length : Int) > 0))) else (some true))) else (some false)))) else (some false)) = some r := H
         have A37 := Aside0.mk A370
         clear A370
         by_cases c38 : t116 = true
         ·
          subst c38
          have H1 : (if (!(a0_0 == a1_0) || (!(a0_1.toList == a1_1.toList))) = true then (if a0_0 = 1 then (if (t109.length : Int) = 0 then (if a0_0 = 3 then (some (decide ((t109.length : Int) > 0))) else (some true)) else (some false)) else (if a0_0 = 3 then (some (decide ((t109.length : Int) > 0))) else (some true))) else ((Ob.Gv.id.f a1_0 a1_1).bind fun t117 => (if t117.toList = t104.toList then (if a0_0 = 1 then (if (t109.length : Int) = 0 then (if a0_0 = 3 then (some (decide ((t109.length : Int) > 0))) else (some true)) else (some false)) else (if a0_0 = 3 then (some (decide ((t109.length : Int) > 0))) else (some true))) else (some false)))) = some r := by rw [if_pos rfl] at H; exact H
          clear H
          have H := H1
          clear H1
          by_cases c39 : (!(a0_0 == a1_0) || (!(a0_1.toList == a1_1.toList))) = true
          ·
           rw [if_pos c39] at H
           have c39b0 : (!(a0_0 == a1_0) || (!(a0_1.toList == a1_1.toList))) = true := c39
           clear c39
           by_cases c40 : a0_0 = 1
           ·
            rw [if_pos c40] at H
            have c40b0 : (a0_0 == 1) = true := beq_iff_eq.mpr c40
            have c40b1 : (a0_0 != 1) = false := bne_eq_false_iff_eq.mpr c40
            clear c40
            by_cases c41 : (t109.length : Int) = 0
            ·
             rw [if_pos c41] at H
             have c41b0 : ((t109.length : Int) == 0) = true := beq_iff_eq.mpr c41
             have c41b1 : ((t109.length : Int) != 0) = false := bne_eq_false_iff_eq.mpr c41
             clear c41
             by_cases c42 : a0_0 = 3
             ·
              rw [if_pos c42] at H
              have c42b0 : (a0_0 == 3) = true := beq_iff_eq.mpr c42
              have c42b1 : (a0_0 != 3) = false := bne_eq_false_iff_eq.mpr c42
              clear c42
              obtain rfl := Option.some.inj H
              obtain ⟨Ao43, co43, eo43⟩ := Kd.R_slice HO_7.out
              subst eo43
              go_wp2_with (first | (go_at_call 34; (with_reducible refine (PObDoc.r02_Named.calls k2 t104 true _ A37.out).mono ?_); rintro e w' ⟨rfl, ⟨nd, rfl⟩⟩; have hnb44 := NB101_102.out; have hnc44 := NB102_101.out; have hcz45_0 : wr.cell? ⟨gb101, 0, none⟩ = some (.int .i64 a0_0) := (blk_cell BK101.out 0).trans rfl; have hcz45_1 : wr.cell? ⟨gb101, 1, none⟩ = some (.string a0_1) := (blk_cell BK101.out 1).trans rfl; have hfz45_0 := blk_frozen BK101.out 0; have hfz45_1 := blk_frozen BK101.out 1; have hcz46_0 : wr.cell? ⟨gb102, 0, none⟩ = some (.int .i64 a1_0) := (blk_cell BK102.out 0).trans rfl; have hcz46_1 : wr.cell? ⟨gb102, 1, none⟩ = some (.string a1_1) := (blk_cell BK102.out 1).trans rfl; have hfz46_0 := blk_frozen BK102.out 0; have hfz46_1 := blk_frozen BK102.out 1))
              go_ret
              exact ⟨by first | rfl | (simp [errW_none, errW_some] <;> rfl) | (simp [*, errW_none, errW_some] <;> rfl), by repeat (first | (with_reducible first | exact HB.out | apply below_alloc | apply pw_below_drewN | apply below_drew1 | refine below_set ?_ GE101.out | refine below_set ?_ GE102.out) | exact HB.out)⟩
             ·
              rw [if_neg c42] at H
              have c42b0 : (a0_0 == 3) = false := beq_eq_false_iff_ne.mpr c42
              have c42b1 : (a0_0 != 3) = true := bne_iff_ne.mpr c42
              obtain rfl := Option.some.inj H
              obtain ⟨Ao47, co47, eo47⟩ := Kd.R_slice HO_7.out
              subst eo47
              go_wp2_with (first | (go_at_call 34; (with_reducible refine (PObDoc.r02_Named.calls k2 t104 true _ A37.out).mono ?_); rintro e w' ⟨rfl, ⟨nd, rfl⟩⟩; have hnb48 := NB101_102.out; have hnc48 := NB102_101.out; have hcz49_0 : wr.cell? ⟨gb101, 0, none⟩ = some (.int .i64 a0_0) := (blk_cell BK101.out 0).trans rfl; have hcz49_1 : wr.cell? ⟨gb101, 1, none⟩ = some (.string a0_1) := (blk_cell BK101.out 1).trans rfl; have hfz49_0 := blk_frozen BK101.out 0; have hfz49_1 := blk_frozen BK101.out 1; have hcz50_0 : wr.cell? ⟨gb102, 0, none⟩ = some (.int .i64 a1_0) := (blk_cell BK102.out 0).trans rfl; have hcz50_1 : wr.cell? ⟨gb102, 1, none⟩ = some (.string a1_1) := (blk_cell BK102.out 1).trans rfl; have hfz50_0 := blk_frozen BK102.out 0; have hfz50_1 := blk_frozen BK102.out 1))
              go_ret
              exact ⟨by first | rfl | (simp [errW_none, errW_some] <;> rfl) | (simp [*, errW_none, errW_some] <;> rfl), by repeat (first | (with_reducible first | exact HB.out | apply below_alloc | apply pw_below_drewN | apply below_drew1 | refine below_set ?_ GE101.out | refine below_set ?_ GE102.out) | exact HB.out)⟩
            ·
             rw [if_neg c41] at H
             have c41b0 : ((t109.length : Int) == 0) = false := beq_eq_false_iff_ne.mpr c41
             have c41b1 : ((t109.length : Int) != 0) = true := bne_iff_ne.mpr c41
             have c41b2 : ¬ (t109 = []) := fun h_ => c41 (by rw [h_]; rfl)
             obtain rfl := Option.some.inj H
             obtain ⟨Ao51, co51, eo51⟩ := Kd.R_slice HO_7.out
             subst eo51
             go_wp2_with (first | (go_at_call 34; (with_reducible refine (PObDoc.r02_Named.calls k2 t104 true _ A37.out).mono ?_); rintro e w' ⟨rfl, ⟨nd, rfl⟩⟩; have hnb52 := NB101_102.out; have hnc52 := NB102_101.out; have hcz53_0 : wr.cell? ⟨gb101, 0, none⟩ = some (.int .i64 a0_0) := (blk_cell BK101.out 0).trans rfl; have hcz53_1 : wr.cell? ⟨gb101, 1, none⟩ = some (.string a0_1) := (blk_cell BK101.out 1).trans rfl; have hfz53_0 := blk_frozen BK101.out 0; have hfz53_1 := blk_frozen BK101.out 1; have hcz54_0 : wr.cell? ⟨gb102, 0, none⟩ = some (.int .i64 a1_0) := (blk_cell BK102.out 0).trans rfl; have hcz54_1 : wr.cell? ⟨gb102, 1, none⟩ = some (.string a1_1) := (blk_cell BK102.out 1).trans rfl; have hfz54_0 := blk_frozen BK102.out 0; have hfz54_1 := blk_frozen BK102.out 1))
             go_ret
             exact ⟨by first | rfl | (simp [errW_none, errW_some] <;> rfl) | (simp [*, errW_none, errW_some] <;> rfl), by repeat (first | (with_reducible first | exact HB.out | apply below_alloc | apply pw_below_drewN | apply below_drew1 | refine below_set ?_ GE101.out | refine below_set ?_ GE102.out) | exact HB.out)⟩
           ·
            rw [if_neg c40] at H
            have c40b0 : (a0_0 == 1) = false := beq_eq_false_iff_ne.mpr c40
            have c40b1 : (a0_0 != 1) = true := bne_iff_ne.mpr c40
            by_cases c55 : a0_0 = 3
            ·
             rw [if_pos c55] at H
             have c55b0 : (a0_0 == 3) = true := beq_iff_eq.mpr c55
             have c55b1 : (a0_0 != 3) = false := bne_eq_false_iff_eq.mpr c55
             clear c55
             obtain rfl := Option.some.inj H
             obtain ⟨Ao56, co56, eo56⟩ := Kd.R_slice HO_7.out
             subst eo56
             go_wp2_with (first | (go_at_call 34; (with_reducible refine (PObDoc.r02_Named.calls k2 t104 true _ A37.out).mono ?_); rintro e w' ⟨rfl, ⟨nd, rfl⟩⟩; have hnb57 := NB101_102.out; have hnc57 := NB102_101.out; have hcz58_0 : wr.cell? ⟨gb101, 0, none⟩ = some (.int .i64 a0_0) := (blk_cell BK101.out 0).trans rfl; have hcz58_1 : wr.cell? ⟨gb101, 1, none⟩ = some (.string a0_1) := (blk_cell BK101.out 1).trans rfl; have hfz58_0 := blk_frozen BK101.out 0; have hfz58_1 := blk_frozen BK101.out 1; have hcz59_0 : wr.cell? ⟨gb102, 0, none⟩ = some (.int .i64 a1_0) := (blk_cell BK102.out 0).trans rfl; have hcz59_1 : wr.cell? ⟨gb102, 1, none⟩ = some (.string a1_1) := (blk_cell BK102.out 1).trans rfl; have hfz59_0 := blk_frozen BK102.out 0; have hfz59_1 := blk_frozen BK102.out 1))
             go_ret
             exact ⟨by first | rfl | (simp [errW_none, errW_some] <;> rfl) | (simp [*, errW_none, errW_some] <;> rfl), by repeat (first | (with_reducible first | exact HB.out | apply below_alloc | apply pw_below_drewN | apply below_drew1 | refine below_set ?_ GE101.out | refine below_set ?_ GE102.out) | exact HB.out)⟩
            ·
             rw [if_neg c55] at H
             have c55b0 : (a0_0 == 3) = false := beq_eq_false_iff_ne.mpr c55
             have c55b1 : (a0_0 != 3) = true := bne_iff_ne.mpr c55
             obtain rfl := Option.some.inj H
             obtain ⟨Ao60, co60, eo60⟩ := Kd.R_slice HO_7.out
             subst eo60
             go_wp2_with (first | (go_at_call 34; (with_reducible refine (PObDoc.r02_Named.calls k2 t104 true _ A37.out).mono ?_); rintro e w' ⟨rfl, ⟨nd, rfl⟩⟩; have hnb61 := NB101_102.out; have hnc61 := NB102_101.out; have hcz62_0 : wr.cell? ⟨gb101, 0, none⟩ = some (.int .i64 a0_0) := (blk_cell BK101.out 0).trans rfl; have hcz62_1 : wr.cell? ⟨gb101, 1, none⟩ = some (.string a0_1) := (blk_cell BK101.out 1).trans rfl; have hfz62_0 := blk_frozen BK101.out 0; have hfz62_1 := blk_frozen BK101.out 1; have hcz63_0 : wr.cell? ⟨gb102, 0, none⟩ = some (.int .i64 a1_0) := (blk_cell BK102.out 0).trans rfl; have hcz63_1 : wr.cell? ⟨gb102, 1, none⟩ = some (.string a1_1) := (blk_cell BK102.out 1).trans rfl; have hfz63_0 := blk_frozen BK102.out 0; have hfz63_1 := blk_frozen BK102.out 1))
             go_ret
             exact ⟨by first | rfl | (simp [errW_none, errW_some] <;> rfl) | (simp [*, errW_none, errW_some] <;> rfl), by repeat (first | (with_reducible first | exact HB.out | apply below_alloc | apply pw_below_drewN | apply below_drew1 | refine below_set ?_ GE101.out | refine below_set ?_ GE102.out) | exact HB.out)⟩
          ·
           rw [if_neg c39] at H
           have c39b0 : (!(a0_0 == a1_0) || (!(a0_1.toList == a1_1.toList))) = false := by simpa using c39
           clear c39
           replace H := Option.bind_eq_some_iff.mp H
           obtain ⟨t117, A640, H⟩ := H
           replace H : (if t117.toList = t104.toList then (if a0_0 = 1 then (if (t109.length : Int) = 0 then (if a0_0 = 3 then (some (decide ((t109.length : Int) > 0))) else (some true)) else (some false)) else (if a0_0 = 3 then (some (decide ((t109.length : Int) > 0))) else (some true))) else (some false)) = some r := H
           have A64 := Aside0.mk A640
           clear A640
           by_cases c65 : t117.toList = t104.toList
           ·
            rw [if_pos c65] at H
            have c65b0 : (t117.toList == t104.toList) = true := beq_iff_eq.mpr c65
            have c65b1 : (t117.toList != t104.toList) = false := bne_eq_false_iff_eq.mpr c65
            clear c65
            by_cases c66 : a0_0 = 1
            ·
             rw [if_pos c66] at H
             have c66b0 : (a0_0 == 1) = true := beq_iff_eq.mpr c66
             have c66b1 : (a0_0 != 1) = false := bne_eq_false_iff_eq.mpr c66
             clear c66
             by_cases c67 : (t109.length : Int) = 0
             ·
              rw [if_pos c67] at H
              have c67b0 : ((t109.length : Int) == 0) = true := beq_iff_eq.mpr c67
              have c67b1 : ((t109.length : Int) != 0) = false := bne_eq_false_iff_eq.mpr c67
              clear c67
              by_cases c68 : a0_0 = 3
              ·
               rw [if_pos c68] at H
               have c68b0 : (a0_0 == 3) = true := beq_iff_eq.mpr c68
               have c68b1 : (a0_0 != 3) = false := bne_eq_false_iff_eq.mpr c68
               clear c68
               obtain rfl := Option.some.inj H
               obtain ⟨Ao69, co69, eo69⟩ := Kd.R_slice HO_7.out
               subst eo69
               go_wp2_with (first | (go_at_call 34; (with_reducible refine (PObDoc.r02_Named.calls k2 t104 true _ A37.out).mono ?_); rintro e w' ⟨rfl, ⟨nd, rfl⟩⟩; have hnb70 := NB101_102.out; have hnc70 := NB102_101.out; have hcz71_0 : wr.cell? ⟨gb101, 0, none⟩ = some (.int .i64 a0_0) := (blk_cell BK101.out 0).trans rfl; have hcz71_1 : wr.cell? ⟨gb101, 1, none⟩ = some (.string a0_1) := (blk_cell BK101.out 1).trans rfl; have hfz71_0 := blk_frozen BK101.out 0; have hfz71_1 := blk_frozen BK101.out 1; have hcz72_0 : wr.cell? ⟨gb102, 0, none⟩ = some (.int .i64 a1_0) := (blk_cell BK102.out 0).trans rfl; have hcz72_1 : wr.cell? ⟨gb102, 1, none⟩ = some (.string a1_1) := (blk_cell BK102.out 1).trans rfl; have hfz72_0 := blk_frozen BK102.out 0; have hfz72_1 := blk_frozen BK102.out 1) | (go_at_call 13; (with_reducible refine (Ob.Gv.id.calls a1_0 a1_1 t117 _ A64.out (HTAB_.out _ (by first | exact Below.refl _ _ | (with_reducible exact Aside0.out (by assumption)) | repeat (first | (with_reducible exact Aside0.out (by assumption)) | apply below_alloc | apply pw_below_drewN | apply below_drew1)))).mono ?_); rintro e w73 ⟨rfl, hb⟩; have n0_ := Aside0.mk (Kd.R_below (by (with_reducible repeat (first | apply Kd.R_alloc | apply Kd.R_drewN | apply Kd.R_drew)); exact HO_7.out) hb); have n1_ := Aside0.mk (blk_below (g := gb101) (o := .cells #[.int .i64 a0_0, .string a0_1] 23 (0, 0)) (by (with_reducible repeat (first | refine blk_drewN ?_ _ | refine blk_drew ?_ | refine blk_alloc ?_ _)); exact BK101.out) hb); have n2_ := Aside0.mk (blk_below (g := gb102) (o := .cells #[.int .i64 a1_0, .string a1_1] 23 (0, 0)) (by (with_reducible repeat (first | refine blk_drewN ?_ _ | refine blk_drew ?_ | refine blk_alloc ?_ _)); exact BK102.out) hb); have n3_ := Aside0.mk (below_step (by repeat (first | (with_reducible first | exact HB.out | apply below_alloc | apply pw_below_drewN | apply below_drew1 | refine below_set ?_ GE101.out | refine below_set ?_ GE102.out) | exact HB.out)) hb); clear HO_7; clear BK101; clear BK102; clear HB; have HO_7 := n0_; have BK101 := n1_; have BK102 := n2_; have HB := n3_; clear n0_ n1_ n2_ n3_; (try clear hb); (try clear hb2); (try clear hk); (try clear hi); have hcz74_0 : w73.cell? ⟨gb101, 0, none⟩ = some (.int .i64 a0_0) := (blk_cell BK101.out 0).trans rfl; have hcz74_1 : w73.cell? ⟨gb101, 1, none⟩ = some (.string a0_1) := (blk_cell BK101.out 1).trans rfl; have hfz74_0 := blk_frozen BK101.out 0; have hfz74_1 := blk_frozen BK101.out 1))
               go_ret
               exact ⟨by first | rfl | (simp [errW_none, errW_some] <;> rfl) | (simp [*, errW_none, errW_some] <;> rfl), by repeat (first | (with_reducible first | exact HB.out | apply below_alloc | apply pw_below_drewN | apply below_drew1 | refine below_set ?_ GE101.out | refine below_set ?_ GE102.out) | exact HB.out)⟩
              ·
               rw [if_neg c68] at H
               have c68b0 : (a0_0 == 3) = false := beq_eq_false_iff_ne.mpr c68
               have c68b1 : (a0_0 != 3) = true := bne_iff_ne.mpr c68
               obtain rfl := Option.some.inj H
               obtain ⟨Ao75, co75, eo75⟩ := Kd.R_slice HO_7.out
               subst eo75
               go_wp2_with (first | (go_at_call 34; (with_reducible refine (PObDoc.r02_Named.calls k2 t104 true _ A37.out).mono ?_); rintro e w' ⟨rfl, ⟨nd, rfl⟩⟩; have hnb76 := NB101_102.out; have hnc76 := NB102_101.out; have hcz77_0 : wr.cell? ⟨gb101, 0, none⟩ = some (.int .i64 a0_0) := (blk_cell BK101.out 0).trans rfl; have hcz77_1 : wr.cell? ⟨gb101, 1, none⟩ = some (.string a0_1) := (blk_cell BK101.out 1).trans rfl; have hfz77_0 := blk_frozen BK101.out 0; have hfz77_1 := blk_frozen BK101.out 1; have hcz78_0 : wr.cell? ⟨gb102, 0, none⟩ = some (.int .i64 a1_0) := (blk_cell BK102.out 0).trans rfl; have hcz78_1 : wr.cell? ⟨gb102, 1, none⟩ = some (.string a1_1) := (blk_cell BK102.out 1).trans rfl; have hfz78_0 := blk_frozen BK102.out 0; have hfz78_1 := blk_frozen BK102.out 1) | (go_at_call 13; (with_reducible refine (Ob.Gv.id.calls a1_0 a1_1 t117 _ A64.out (HTAB_.out _ (by first | exact Below.refl _ _ | (with_reducible exact Aside0.out (by assumption)) | repeat (first | (with_reducible exact Aside0.out (by assumption)) | apply below_alloc | apply pw_below_drewN | apply below_drew1)))).mono ?_); rintro e w79 ⟨rfl, hb⟩; have n0_ := Aside0.mk (Kd.R_below (by (with_reducible repeat (first | apply Kd.R_alloc | apply Kd.R_drewN | apply Kd.R_drew)); exact HO_7.out) hb); have n1_ := Aside0.mk (blk_below (g := gb101) (o := .cells #[.int .i64 a0_0, .string a0_1] 23 (0, 0)) (by (with_reducible repeat (first | refine blk_drewN ?_ _ | refine blk_drew ?_ | refine blk_alloc ?_ _)); exact BK101.out) hb); have n2_ := Aside0.mk (blk_below (g := gb102) (o := .cells #[.int .i64 a1_0, .string a1_1] 23 (0, 0)) (by (with_reducible repeat (first | refine blk_drewN ?_ _ | refine blk_drew ?_ | refine blk_alloc ?_ _)); exact BK102.out) hb); have n3_ := Aside0.mk (below_step (by repeat (first | (with_reducible first | exact HB.out | apply below_alloc | apply pw_below_drewN | apply below_drew1 | refine below_set ?_ GE101.out | refine below_set ?_ GE102.out) | exact HB.out)) hb); clear HO_7; clear BK101; clear BK102; clear HB; have HO_7 := n0_; have BK101 := n1_; have BK102 := n2_; have HB := n3_; clear n0_ n1_ n2_ n3_; (try clear hb); (try clear hb2); (try clear hk); (try clear hi); have hcz80_0 : w79.cell? ⟨gb101, 0, none⟩ = some (.int .i64 a0_0) := (blk_cell BK101.out 0).trans rfl; have hcz80_1 : w79.cell? ⟨gb101, 1, none⟩ = some (.string a0_1) := (blk_cell BK101.out 1).trans rfl; have hfz80_0 := blk_frozen BK101.out 0; have hfz80_1 := blk_frozen BK101.out 1))
               go_ret
               exact ⟨by first | rfl | (simp [errW_none, errW_some] <;> rfl) | (simp [*, errW_none, errW_some] <;> rfl), by repeat (first | (with_reducible first | exact HB.out | apply below_alloc | apply pw_below_drewN | apply below_drew1 | refine below_set ?_ GE101.out | refine below_set ?_ GE102.out) | exact HB.out)⟩
             ·
              rw [if_neg c67] at H
              have c67b0 : ((t109.length : Int) == 0) = false := beq_eq_false_iff_ne.mpr c67
              have c67b1 : ((t109.length : Int) != 0) = true := bne_iff_ne.mpr c67
              have c67b2 : ¬ (t109 = []) := fun h_ => c67 (by rw [h_]; rfl)
              obtain rfl := Option.some.inj H
              obtain ⟨Ao81, co81, eo81⟩ := Kd.R_slice HO_7.out
              subst eo81
              go_wp2_with (first | (go_at_call 34; (with_reducible refine (PObDoc.r02_Named.calls k2 t104 true _ A37.out).mono ?_); rintro e w' ⟨rfl, ⟨nd, rfl⟩⟩; have hnb82 := NB101_102.out; have hnc82 := NB102_101.out; have hcz83_0 : wr.cell? ⟨gb101, 0, none⟩ = some (.int .i64 a0_0) := (blk_cell BK101.out 0).trans rfl; have hcz83_1 : wr.cell? ⟨gb101, 1, none⟩ = some (.string a0_1) := (blk_cell BK101.out 1).trans rfl; have hfz83_0 := blk_frozen BK101.out 0; have hfz83_1 := blk_frozen BK101.out 1; have hcz84_0 : wr.cell? ⟨gb102, 0, none⟩ = some (.int .i64 a1_0) := (blk_cell BK102.out 0).trans rfl; have hcz84_1 : wr.cell? ⟨gb102, 1, none⟩ = some (.string a1_1) := (blk_cell BK102.out 1).trans rfl; have hfz84_0 := blk_frozen BK102.out 0; have hfz84_1 := blk_frozen BK102.out 1) | (go_at_call 13; (with_reducible refine (Ob.Gv.id.calls a1_0 a1_1 t117 _ A64.out (HTAB_.out _ (by first | exact Below.refl _ _ | (with_reducible exact Aside0.out (by assumption)) | repeat (first | (with_reducible exact Aside0.out (by assumption)) | apply below_alloc | apply pw_below_drewN | apply below_drew1)))).mono ?_); rintro e w85 ⟨rfl, hb⟩; have n0_ := Aside0.mk (Kd.R_below (by (with_reducible repeat (first | apply Kd.R_alloc | apply Kd.R_drewN | apply Kd.R_drew)); exact HO_7.out) hb); have n1_ := Aside0.mk (blk_below (g := gb101) (o := .cells #[.int .i64 a0_0, .string a0_1] 23 (0, 0)) (by (with_reducible repeat (first | refine blk_drewN ?_ _ | refine blk_drew ?_ | refine blk_alloc ?_ _)); exact BK101.out) hb); have n2_ := Aside0.mk (blk_below (g := gb102) (o := .cells #[.int .i64 a1_0, .string a1_1] 23 (0, 0)) (by (with_reducible repeat (first | refine blk_drewN ?_ _ | refine blk_drew ?_ | refine blk_alloc ?_ _)); exact BK102.out) hb); have n3_ := Aside0.mk (below_step (by repeat (first | (with_reducible first | exact HB.out | apply below_alloc | apply pw_below_drewN | apply below_drew1 | refine below_set ?_ GE101.out | refine below_set ?_ GE102.out) | exact HB.out)) hb); clear HO_7; clear BK101; clear BK102; clear HB; have HO_7 := n0_; have BK101 := n1_; have BK102 := n2_; have HB := n3_; clear n0_ n1_ n2_ n3_; (try clear hb); (try clear hb2); (try clear hk); (try clear hi); have hcz86_0 : w85.cell? ⟨gb101, 0, none⟩ = some (.int .i64 a0_0) := (blk_cell BK101.out 0).trans rfl; have hcz86_1 : w85.cell? ⟨gb101, 1, none⟩ = some (.string a0_1) := (blk_cell BK101.out 1).trans rfl; have hfz86_0 := blk_frozen BK101.out 0; have hfz86_1 := blk_frozen BK101.out 1))
              go_ret
              exact ⟨by first | rfl | (simp [errW_none, errW_some] <;> rfl) | (simp [*, errW_none, errW_some] <;> rfl), by repeat (first | (with_reducible first | exact HB.out | apply below_alloc | apply pw_below_drewN | apply below_drew1 | refine below_set ?_ GE101.out | refine below_set ?_ GE102.out) | exact HB.out)⟩
            ·
             rw [if_neg c66] at H
             have c66b0 : (a0_0 == 1) = false := beq_eq_false_iff_ne.mpr c66
             have c66b1 : (a0_0 != 1) = true := bne_iff_ne.mpr c66
             by_cases c87 : a0_0 = 3
             ·
              rw [if_pos c87] at H
              have c87b0 : (a0_0 == 3) = true := beq_iff_eq.mpr c87
              have c87b1 : (a0_0 != 3) = false := bne_eq_false_iff_eq.mpr c87
              clear c87
              obtain rfl := Option.some.inj H
              obtain ⟨Ao88, co88, eo88⟩ := Kd.R_slice HO_7.out
              subst eo88
              go_wp2_with (first | (go_at_call 34; (with_reducible refine (PObDoc.r02_Named.calls k2 t104 true _ A37.out).mono ?_); rintro e w' ⟨rfl, ⟨nd, rfl⟩⟩; have hnb89 := NB101_102.out; have hnc89 := NB102_101.out; have hcz90_0 : wr.cell? ⟨gb101, 0, none⟩ = some (.int .i64 a0_0) := (blk_cell BK101.out 0).trans rfl; have hcz90_1 : wr.cell? ⟨gb101, 1, none⟩ = some (.string a0_1) := (blk_cell BK101.out 1).trans rfl; have hfz90_0 := blk_frozen BK101.out 0; have hfz90_1 := blk_frozen BK101.out 1; have hcz91_0 : wr.cell? ⟨gb102, 0, none⟩ = some (.int .i64 a1_0) := (blk_cell BK102.out 0).trans rfl; have hcz91_1 : wr.cell? ⟨gb102, 1, none⟩ = some (.string a1_1) := (blk_cell BK102.out 1).trans rfl; have hfz91_0 := blk_frozen BK102.out 0; have hfz91_1 := blk_frozen BK102.out 1) | (go_at_call 13; (with_reducible refine (Ob.Gv.id.calls a1_0 a1_1 t117 _ A64.out (HTAB_.out _ (by first | exact Below.refl _ _ | (with_reducible exact Aside0.out (by assumption)) | repeat (first | (with_reducible exact Aside0.out (by assumption)) | apply below_alloc | apply pw_below_drewN | apply below_drew1)))).mono ?_); rintro e w92 ⟨rfl, hb⟩; have n0_ := Aside0.mk (Kd.R_below (by (with_reducible repeat (first | apply Kd.R_alloc | apply Kd.R_drewN | apply Kd.R_drew)); exact HO_7.out) hb); have n1_ := Aside0.mk (blk_below (g := gb101) (o := .cells #[.int .i64 a0_0, .string a0_1] 23 (0, 0)) (by (with_reducible repeat (first | refine blk_drewN ?_ _ | refine blk_drew ?_ | refine blk_alloc ?_ _)); exact BK101.out) hb); have n2_ := Aside0.mk (blk_below (g := gb102) (o := .cells #[.int .i64 a1_0, .string a1_1] 23 (0, 0)) (by (with_reducible repeat (first | refine blk_drewN ?_ _ | refine blk_drew ?_ | refine blk_alloc ?_ _)); exact BK102.out) hb); have n3_ := Aside0.mk (below_step (by repeat (first | (with_reducible first | exact HB.out | apply below_alloc | apply pw_below_drewN | apply below_drew1 | refine below_set ?_ GE101.out | refine below_set ?_ GE102.out) | exact HB.out)) hb); clear HO_7; clear BK101; clear BK102; clear HB; have HO_7 := n0_; have BK101 := n1_; have BK102 := n2_; have HB := n3_; clear n0_ n1_ n2_ n3_; (try clear hb); (try clear hb2); (try clear hk); (try clear hi); have hcz93_0 : w92.cell? ⟨gb101, 0, none⟩ = some (.int .i64 a0_0) := (blk_cell BK101.out 0).trans rfl; have hcz93_1 : w92.cell? ⟨gb101, 1, none⟩ = some (.string a0_1) := (blk_cell BK101.out 1).trans rfl; have hfz93_0 := blk_frozen BK101.out 0; have hfz93_1 := blk_frozen BK101.out 1))
              go_ret
              exact ⟨by first | rfl | (simp [errW_none, errW_some] <;> rfl) | (simp [*, errW_none, errW_some] <;> rfl), by repeat (first | (with_reducible first | exact HB.out | apply below_alloc | apply pw_below_drewN | apply below_drew1 | refine below_set ?_ GE101.out | refine below_set ?_ GE102.out) | exact HB.out)⟩
             ·
              rw [if_neg c87] at H
              have c87b0 : (a0_0 == 3) = false := beq_eq_false_iff_ne.mpr c87
              have c87b1 : (a0_0 != 3) = true := bne_iff_ne.mpr c87
              obtain rfl := Option.some.inj H
              obtain ⟨Ao94, co94, eo94⟩ := Kd.R_slice HO_7.out
              subst eo94
              go_wp2_with (first | (go_at_call 34; (with_reducible refine (PObDoc.r02_Named.calls k2 t104 true _ A37.out).mono ?_); rintro e w' ⟨rfl, ⟨nd, rfl⟩⟩; have hnb95 := NB101_102.out; have hnc95 := NB102_101.out; have hcz96_0 : wr.cell? ⟨gb101, 0, none⟩ = some (.int .i64 a0_0) := (blk_cell BK101.out 0).trans rfl; have hcz96_1 : wr.cell? ⟨gb101, 1, none⟩ = some (.string a0_1) := (blk_cell BK101.out 1).trans rfl; have hfz96_0 := blk_frozen BK101.out 0; have hfz96_1 := blk_frozen BK101.out 1; have hcz97_0 : wr.cell? ⟨gb102, 0, none⟩ = some (.int .i64 a1_0) := (blk_cell BK102.out 0).trans rfl; have hcz97_1 : wr.cell? ⟨gb102, 1, none⟩ = some (.string a1_1) := (blk_cell BK102.out 1).trans rfl; have hfz97_0 := blk_frozen BK102.out 0; have hfz97_1 := blk_frozen BK102.out 1) | (go_at_call 13; (with_reducible refine (Ob.Gv.id.calls a1_0 a1_1 t117 _ A64.out (HTAB_.out _ (by first | exact Below.refl _ _ | (with_reducible exact Aside0.out (by assumption)) | repeat (first | (with_reducible exact Aside0.out (by assumption)) | apply below_alloc | apply pw_below_drewN | apply below_drew1)))).mono ?_); rintro e w98 ⟨rfl, hb⟩; have n0_ := Aside0.mk (Kd.R_below (by (with_reducible repeat (first | apply Kd.R_alloc | apply Kd.R_drewN | apply Kd.R_drew)); exact HO_7.out) hb); have n1_ := Aside0.mk (blk_below (g := gb101) (o := .cells #[.int .i64 a0_0, .string a0_1] 23 (0, 0)) (by (with_reducible repeat (first | refine blk_drewN ?_ _ | refine blk_drew ?_ | refine blk_alloc ?_ _)); exact BK101.out) hb); have n2_ := Aside0.mk (blk_below (g := gb102) (o := .cells #[.int .i64 a1_0, .string a1_1] 23 (0, 0)) (by (with_reducible repeat (first | refine blk_drewN ?_ _ | refine blk_drew ?_ | refine blk_alloc ?_ _)); exact BK102.out) hb); have n3_ := Aside0.mk (below_step (by repeat (first | (with_reducible first | exact HB.out | apply below_alloc | apply pw_below_drewN | apply below_drew1 | refine below_set ?_ GE101.out | refine below_set ?_ GE102.out) | exact HB.out)) hb); clear HO_7; clear BK101; clear BK102; clear HB; have HO_7 := n0_; have BK101 := n1_; have BK102 := n2_; have HB := n3_; clear n0_ n1_ n2_ n3_; (try clear hb); (try clear hb2); (try clear hk); (try clear hi); have hcz99_0 : w98.cell? ⟨gb101, 0, none⟩ = some (.int .i64 a0_0) := (blk_cell BK101.out 0).trans rfl; have hcz99_1 : w98.cell? ⟨gb101, 1, none⟩ = some (.string a0_1) := (blk_cell BK101.out 1).trans rfl; have hfz99_0 := blk_frozen BK101.out 0; have hfz99_1 := blk_frozen BK101.out 1))
              go_ret
              exact ⟨by first | rfl | (simp [errW_none, errW_some] <;> rfl) | (simp [*, errW_none, errW_some] <;> rfl), by repeat (first | (with_reducible first | exact HB.out | apply below_alloc | apply pw_below_drewN | apply below_drew1 | refine below_set ?_ GE101.out | refine below_set ?_ GE102.out) | exact HB.out)⟩
           ·
            rw [if_neg c65] at H
            have c65b0 : (t117.toList == t104.toList) = false := beq_eq_false_iff_ne.mpr c65
            have c65b1 : (t117.toList != t104.toList) = true := bne_iff_ne.mpr c65
            obtain rfl := Option.some.inj H
            obtain ⟨Ao100, co100, eo100⟩ := Kd.R_slice HO_7.out
            subst eo100
            go_wp2_with (first | (go_at_call 34; (with_reducible refine (PObDoc.r02_Named.calls k2 t104 true _ A37.out).mono ?_); rintro e w' ⟨rfl, ⟨nd, rfl⟩⟩; have hnb101 := NB101_102.out; have hnc101 := NB102_101.out; have hcz102_0 : wr.cell? ⟨gb101, 0, none⟩ = some (.int .i64 a0_0) := (blk_cell BK101.out 0).trans rfl; have hcz102_1 : wr.cell? ⟨gb101, 1, none⟩ = some (.string a0_1) := (blk_cell BK101.out 1).trans rfl; have hfz102_0 := blk_frozen BK101.out 0; have hfz102_1 := blk_frozen BK101.out 1; have hcz103_0 : wr.cell? ⟨gb102, 0, none⟩ = some (.int .i64 a1_0) := (blk_cell BK102.out 0).trans rfl; have hcz103_1 : wr.cell? ⟨gb102, 1, none⟩ = some (.string a1_1) := (blk_cell BK102.out 1).trans rfl; have hfz103_0 := blk_frozen BK102.out 0; have hfz103_1 := blk_frozen BK102.out 1) | (go_at_call 13; (with_reducible refine (Ob.Gv.id.calls a1_0 a1_1 t117 _ A64.out (HTAB_.out _ (by first | exact Below.refl _ _ | (with_reducible exact Aside0.out (by assumption)) | repeat (first | (with_reducible exact Aside0.out (by assumption)) | apply below_alloc | apply pw_below_drewN | apply below_drew1)))).mono ?_); rintro e w104 ⟨rfl, hb⟩; have n0_ := Aside0.mk (Kd.R_below (by (with_reducible repeat (first | apply Kd.R_alloc | apply Kd.R_drewN | apply Kd.R_drew)); exact HO_7.out) hb); have n1_ := Aside0.mk (blk_below (g := gb101) (o := .cells #[.int .i64 a0_0, .string a0_1] 23 (0, 0)) (by (with_reducible repeat (first | refine blk_drewN ?_ _ | refine blk_drew ?_ | refine blk_alloc ?_ _)); exact BK101.out) hb); have n2_ := Aside0.mk (blk_below (g := gb102) (o := .cells #[.int .i64 a1_0, .string a1_1] 23 (0, 0)) (by (with_reducible repeat (first | refine blk_drewN ?_ _ | refine blk_drew ?_ | refine blk_alloc ?_ _)); exact BK102.out) hb); have n3_ := Aside0.mk (below_step (by repeat (first | (with_reducible first | exact HB.out | apply below_alloc | apply pw_below_drewN | apply below_drew1 | refine below_set ?_ GE101.out | refine below_set ?_ GE102.out) | exact HB.out)) hb); clear HO_7; clear BK101; clear BK102; clear HB; have HO_7 := n0_; have BK101 := n1_; have BK102 := n2_; have HB := n3_; clear n0_ n1_ n2_ n3_; (try clear hb); (try clear hb2); (try clear hk); (try clear hi)))
            go_ret
            exact ⟨by first | rfl | (simp [errW_none, errW_some] <;> rfl) | (simp [*, errW_none, errW_some] <;> rfl), by repeat (first | (with_reducible first | exact HB.out | apply below_alloc | apply pw_below_drewN | apply below_drew1 | refine below_set ?_ GE101.out | refine below_set ?_ GE102.out) | exact HB.out)⟩
         ·
          replace c38 := Bool.eq_false_iff.mpr c38
          subst c38
          have H1 : (some false) = some r := by rw [if_neg (show ¬ (false = true) by decide)] at H; exact H
          clear H
          have H := H1
          clear H1
          obtain rfl := Option.some.inj H
          obtain ⟨Ao105, co105, eo105⟩ := Kd.R_slice HO_7.out
          subst eo105
          go_wp2_with (first | (go_at_call 34; (with_reducible refine (PObDoc.r02_Named.calls k2 t104 false _ A37.out).mono ?_); rintro e w' ⟨rfl, ⟨nd, rfl⟩⟩))
          go_ret
          exact ⟨by first | rfl | (simp [errW_none, errW_some] <;> rfl) | (simp [*, errW_none, errW_some] <;> rfl), by repeat (first | (with_reducible first | exact HB.out | apply below_alloc | apply pw_below_drewN | apply below_drew1 | refine below_set ?_ GE101.out | refine below_set ?_ GE102.out) | exact HB.out)⟩
        ·
         replace c36 := Bool.eq_false_iff.mpr c36
         subst c36
         have H1 : (some false) = some r := by rw [if_neg (show ¬ (false = true) by decide)] at H; exact H
         clear H
         have H := H1
         clear H1
         obtain rfl := Option.some.inj H
         obtain ⟨Ao106, co106, eo106⟩ := Kd.R_slice HO_7.out
         subst eo106
         go_wp2
         go_ret
         exact ⟨by first | rfl | (simp [errW_none, errW_some] <;> rfl) | (simp [*, errW_none, errW_some] <;> rfl), by repeat (first | (with_reducible first | exact HB.out | apply below_alloc | apply pw_below_drewN | apply below_drew1 | refine below_set ?_ GE101.out | refine below_set ?_ GE102.out) | exact HB.out)⟩
    ·
     replace c17 := Bool.eq_false_iff.mpr c17
     subst c17
     have H1 : (if t103 = true then (if t104.toList = ([] : List UInt8) then ((Ob.Gv.wants.f a0_0 a0_1).bind fun t106 => (some ((t106.length : Int) == 0))) else (some false)) else (some false)) = some r := by rw [if_neg (show ¬ (false = true) by decide)] at H; exact H
     clear H
     have H := H1
     clear H1
     by_cases c107 : t103 = true
     ·
      subst c107
      have H1 : (if t104.toList = ([] : List UInt8) then ((Ob.Gv.wants.f a0_0 a0_1).bind fun t106 => (some ((t106.length : Int) == 0))) else (some false)) = some r := by rw [if_pos rfl] at H; exact H
      clear H
      have H := H1
      clear H1
      by_cases c108 : t104.toList = ([] : List UInt8)
      ·
       rw [if_pos c108] at H
       have c108b0 : (t104.toList == ([] : List UInt8)) = true := beq_iff_eq.mpr c108
       have c108b1 : (t104.toList != ([] : List UInt8)) = false := bne_eq_false_iff_eq.mpr c108
       clear c108
       replace H := Option.bind_eq_some_iff.mp H
       obtain ⟨t106, A1090, H⟩ := H
       replace H : (some ((t106.length : Int) == 0)) = some r := H
       have A109 := Aside0.mk A1090
       clear A1090
       obtain rfl := Option.some.inj H
       have hnb110 := NB101_102.out
       have hnc110 := NB102_101.out
       have hcz111_0 : wc.cell? ⟨gb101, 0, none⟩ = some (.int .i64 a0_0) := (blk_cell BK101.out 0).trans rfl
       have hcz111_1 : wc.cell? ⟨gb101, 1, none⟩ = some (.string a0_1) := (blk_cell BK101.out 1).trans rfl
       have hfz111_0 := blk_frozen BK101.out 0
       have hfz111_1 := blk_frozen BK101.out 1
       go_wp2_with (first | ((with_reducible refine gate_callee (f := 13) rfl ?_); refine goesL_ (some 22) rfl rfl Tryz.func13 (by kernel_rfl) rfl #[.agg #[.int .i64 a0_0, .string a0_1]] rfl (by (try simp only [List.map_toArray, List.map_cons, List.map_nil]); first | done | rfl | (simp only [List.length_drop, List.length_take]; rfl)) ?_; (with_reducible refine (Ob.Gv.id.calls a0_0 a0_1 t104 _ A15.out (HTAB_.out _ (by first | exact Below.refl _ _ | (with_reducible exact Aside0.out (by assumption)) | repeat (first | (with_reducible exact Aside0.out (by assumption)) | apply below_alloc | apply pw_below_drewN | apply below_drew1)))).mono ?_); rintro e w112 ⟨rfl, hb⟩; refine ⟨_, rfl, ?_⟩; have n0_ := Aside0.mk (blk_below (g := gb101) (o := .cells #[.int .i64 a0_0, .string a0_1] 23 (0, 0)) (by (with_reducible repeat (first | refine blk_drewN ?_ _ | refine blk_drew ?_ | refine blk_alloc ?_ _)); exact BK101.out) hb); have n1_ := Aside0.mk (blk_below (g := gb102) (o := .cells #[.int .i64 a1_0, .string a1_1] 23 (0, 0)) (by (with_reducible repeat (first | refine blk_drewN ?_ _ | refine blk_drew ?_ | refine blk_alloc ?_ _)); exact BK102.out) hb); have n2_ := Aside0.mk (below_step (by repeat (first | (with_reducible first | exact HB.out | apply below_alloc | apply pw_below_drewN | apply below_drew1 | refine below_set ?_ GE101.out | refine below_set ?_ GE102.out) | exact HB.out)) hb); clear BK101; clear BK102; clear HB; have BK101 := n0_; have BK102 := n1_; have HB := n2_; clear n0_ n1_ n2_; (try clear hb); (try clear hb2); (try clear hk); (try clear hi); have hcz113_0 : w112.cell? ⟨gb101, 0, none⟩ = some (.int .i64 a0_0) := (blk_cell BK101.out 0).trans rfl; have hcz113_1 : w112.cell? ⟨gb101, 1, none⟩ = some (.string a0_1) := (blk_cell BK101.out 1).trans rfl; have hfz113_0 := blk_frozen BK101.out 0; have hfz113_1 := blk_frozen BK101.out 1) | ((with_reducible refine gate_callee (f := 11) rfl ?_); refine goesL_ (some 24) rfl rfl Tryz.func11 (by kernel_rfl) rfl #[.agg #[.int .i64 a0_0, .string a0_1]] rfl (by (try simp only [List.map_toArray, List.map_cons, List.map_nil]); first | done | rfl | (simp only [List.length_drop, List.length_take]; rfl)) ?_; (with_reducible refine (PObRt.object_Right.calls kj3 a0_0 a0_1 false _ A16.out (HTAB_.out _ (by first | exact Below.refl _ _ | (with_reducible exact Aside0.out (by assumption)) | repeat (first | (with_reducible exact Aside0.out (by assumption)) | apply below_alloc | apply pw_below_drewN | apply below_drew1)))).mono ?_); rintro e w114 ⟨rfl, hb⟩; refine ⟨_, rfl, ?_⟩; have n0_ := Aside0.mk (blk_below (g := gb101) (o := .cells #[.int .i64 a0_0, .string a0_1] 23 (0, 0)) (by (with_reducible repeat (first | refine blk_drewN ?_ _ | refine blk_drew ?_ | refine blk_alloc ?_ _)); exact BK101.out) hb); have n1_ := Aside0.mk (blk_below (g := gb102) (o := .cells #[.int .i64 a1_0, .string a1_1] 23 (0, 0)) (by (with_reducible repeat (first | refine blk_drewN ?_ _ | refine blk_drew ?_ | refine blk_alloc ?_ _)); exact BK102.out) hb); have n2_ := Aside0.mk (below_step (by repeat (first | (with_reducible first | exact HB.out | apply below_alloc | apply pw_below_drewN | apply below_drew1 | refine below_set ?_ GE101.out | refine below_set ?_ GE102.out) | exact HB.out)) hb); clear BK101; clear BK102; clear HB; have BK101 := n0_; have BK102 := n1_; have HB := n2_; clear n0_ n1_ n2_; (try clear hb); (try clear hb2); (try clear hk); (try clear hi); have hcz115_0 : w114.cell? ⟨gb101, 0, none⟩ = some (.int .i64 a0_0) := (blk_cell BK101.out 0).trans rfl; have hcz115_1 : w114.cell? ⟨gb101, 1, none⟩ = some (.string a0_1) := (blk_cell BK101.out 1).trans rfl; have hfz115_0 := blk_frozen BK101.out 0; have hfz115_1 := blk_frozen BK101.out 1) | (go_at_call 16; (with_reducible refine (Ob.Gv.wants.calls a0_0 a0_1 t106 _ A109.out (HTAB_.out _ (by first | exact Below.refl _ _ | (with_reducible exact Aside0.out (by assumption)) | repeat (first | (with_reducible exact Aside0.out (by assumption)) | apply below_alloc | apply pw_below_drewN | apply below_drew1)))).mono ?_); rintro e w116 ⟨v107, rfl, ho0, hb⟩; have n0_ := Aside0.mk (Kd.R_lower ho0 (below_size (by repeat (first | (with_reducible first | exact HB.out | apply below_alloc | apply pw_below_drewN | apply below_drew1 | refine below_set ?_ GE101.out | refine below_set ?_ GE102.out) | exact HB.out)))); have n1_ := Aside0.mk (blk_below (g := gb101) (o := .cells #[.int .i64 a0_0, .string a0_1] 23 (0, 0)) (by (with_reducible repeat (first | refine blk_drewN ?_ _ | refine blk_drew ?_ | refine blk_alloc ?_ _)); exact BK101.out) hb); have n2_ := Aside0.mk (blk_below (g := gb102) (o := .cells #[.int .i64 a1_0, .string a1_1] 23 (0, 0)) (by (with_reducible repeat (first | refine blk_drewN ?_ _ | refine blk_drew ?_ | refine blk_alloc ?_ _)); exact BK102.out) hb); have n3_ := Aside0.mk (below_step (by repeat (first | (with_reducible first | exact HB.out | apply below_alloc | apply pw_below_drewN | apply below_drew1 | refine below_set ?_ GE101.out | refine below_set ?_ GE102.out) | exact HB.out)) hb); clear BK101; clear BK102; clear HB; have HO108 := n0_; have BK101 := n1_; have BK102 := n2_; have HB := n3_; clear n0_ n1_ n2_ n3_; (try clear hb); (try clear hb2); (try clear hk); (try clear hi); (try clear ho0); obtain ⟨Ao117, co117, eo117⟩ := Kd.R_slice HO108.out; subst eo117))
       go_ret
       exact ⟨by first | rfl | (simp [errW_none, errW_some] <;> rfl) | (simp [*, errW_none, errW_some] <;> rfl), by repeat (first | (with_reducible first | exact HB.out | apply below_alloc | apply pw_below_drewN | apply below_drew1 | refine below_set ?_ GE101.out | refine below_set ?_ GE102.out) | exact HB.out)⟩
      ·
       rw [if_neg c108] at H
       have c108b0 : (t104.toList == ([] : List UInt8)) = false := beq_eq_false_iff_ne.mpr c108
       have c108b1 : (t104.toList != ([] : List UInt8)) = true := bne_iff_ne.mpr c108
       obtain rfl := Option.some.inj H
       have hnb118 := NB101_102.out
       have hnc118 := NB102_101.out
       have hcz119_0 : wc.cell? ⟨gb101, 0, none⟩ = some (.int .i64 a0_0) := (blk_cell BK101.out 0).trans rfl
       have hcz119_1 : wc.cell? ⟨gb101, 1, none⟩ = some (.string a0_1) := (blk_cell BK101.out 1).trans rfl
       have hfz119_0 := blk_frozen BK101.out 0
       have hfz119_1 := blk_frozen BK101.out 1
       go_wp2_with (first | ((with_reducible refine gate_callee (f := 13) rfl ?_); refine goesL_ (some 22) rfl rfl Tryz.func13 (by kernel_rfl) rfl #[.agg #[.int .i64 a0_0, .string a0_1]] rfl (by (try simp only [List.map_toArray, List.map_cons, List.map_nil]); first | done | rfl | (simp only [List.length_drop, List.length_take]; rfl)) ?_; (with_reducible refine (Ob.Gv.id.calls a0_0 a0_1 t104 _ A15.out (HTAB_.out _ (by first | exact Below.refl _ _ | (with_reducible exact Aside0.out (by assumption)) | repeat (first | (with_reducible exact Aside0.out (by assumption)) | apply below_alloc | apply pw_below_drewN | apply below_drew1)))).mono ?_); rintro e w120 ⟨rfl, hb⟩; refine ⟨_, rfl, ?_⟩; have n0_ := Aside0.mk (blk_below (g := gb101) (o := .cells #[.int .i64 a0_0, .string a0_1] 23 (0, 0)) (by (with_reducible repeat (first | refine blk_drewN ?_ _ | refine blk_drew ?_ | refine blk_alloc ?_ _)); exact BK101.out) hb); have n1_ := Aside0.mk (blk_below (g := gb102) (o := .cells #[.int .i64 a1_0, .string a1_1] 23 (0, 0)) (by (with_reducible repeat (first | refine blk_drewN ?_ _ | refine blk_drew ?_ | refine blk_alloc ?_ _)); exact BK102.out) hb); have n2_ := Aside0.mk (below_step (by repeat (first | (with_reducible first | exact HB.out | apply below_alloc | apply pw_below_drewN | apply below_drew1 | refine below_set ?_ GE101.out | refine below_set ?_ GE102.out) | exact HB.out)) hb); clear BK101; clear BK102; clear HB; have BK101 := n0_; have BK102 := n1_; have HB := n2_; clear n0_ n1_ n2_; (try clear hb); (try clear hb2); (try clear hk); (try clear hi); have hcz121_0 : w120.cell? ⟨gb101, 0, none⟩ = some (.int .i64 a0_0) := (blk_cell BK101.out 0).trans rfl; have hcz121_1 : w120.cell? ⟨gb101, 1, none⟩ = some (.string a0_1) := (blk_cell BK101.out 1).trans rfl; have hfz121_0 := blk_frozen BK101.out 0; have hfz121_1 := blk_frozen BK101.out 1) | ((with_reducible refine gate_callee (f := 11) rfl ?_); refine goesL_ (some 24) rfl rfl Tryz.func11 (by kernel_rfl) rfl #[.agg #[.int .i64 a0_0, .string a0_1]] rfl (by (try simp only [List.map_toArray, List.map_cons, List.map_nil]); first | done | rfl | (simp only [List.length_drop, List.length_take]; rfl)) ?_; (with_reducible refine (PObRt.object_Right.calls kj3 a0_0 a0_1 false _ A16.out (HTAB_.out _ (by first | exact Below.refl _ _ | (with_reducible exact Aside0.out (by assumption)) | repeat (first | (with_reducible exact Aside0.out (by assumption)) | apply below_alloc | apply pw_below_drewN | apply below_drew1)))).mono ?_); rintro e w122 ⟨rfl, hb⟩; refine ⟨_, rfl, ?_⟩; have n0_ := Aside0.mk (blk_below (g := gb101) (o := .cells #[.int .i64 a0_0, .string a0_1] 23 (0, 0)) (by (with_reducible repeat (first | refine blk_drewN ?_ _ | refine blk_drew ?_ | refine blk_alloc ?_ _)); exact BK101.out) hb); have n1_ := Aside0.mk (blk_below (g := gb102) (o := .cells #[.int .i64 a1_0, .string a1_1] 23 (0, 0)) (by (with_reducible repeat (first | refine blk_drewN ?_ _ | refine blk_drew ?_ | refine blk_alloc ?_ _)); exact BK102.out) hb); have n2_ := Aside0.mk (below_step (by repeat (first | (with_reducible first | exact HB.out | apply below_alloc | apply pw_below_drewN | apply below_drew1 | refine below_set ?_ GE101.out | refine below_set ?_ GE102.out) | exact HB.out)) hb); clear BK101; clear BK102; clear HB; have BK101 := n0_; have BK102 := n1_; have HB := n2_; clear n0_ n1_ n2_; (try clear hb); (try clear hb2); (try clear hk); (try clear hi)))
       go_ret
       exact ⟨by first | rfl | (simp [errW_none, errW_some] <;> rfl) | (simp [*, errW_none, errW_some] <;> rfl), by repeat (first | (with_reducible first | exact HB.out | apply below_alloc | apply pw_below_drewN | apply below_drew1 | refine below_set ?_ GE101.out | refine below_set ?_ GE102.out) | exact HB.out)⟩
     ·
      replace c107 := Bool.eq_false_iff.mpr c107
      subst c107
      have H1 : (some false) = some r := by rw [if_neg (show ¬ (false = true) by decide)] at H; exact H
      clear H
      have H := H1
      clear H1
      obtain rfl := Option.some.inj H
      have hnb123 := NB101_102.out
      have hnc123 := NB102_101.out
      have hcz124_0 : wc.cell? ⟨gb101, 0, none⟩ = some (.int .i64 a0_0) := (blk_cell BK101.out 0).trans rfl
      have hcz124_1 : wc.cell? ⟨gb101, 1, none⟩ = some (.string a0_1) := (blk_cell BK101.out 1).trans rfl
      have hfz124_0 := blk_frozen BK101.out 0
      have hfz124_1 := blk_frozen BK101.out 1
      go_wp2_with (first | ((with_reducible refine gate_callee (f := 13) rfl ?_); refine goesL_ (some 22) rfl rfl Tryz.func13 (by kernel_rfl) rfl #[.agg #[.int .i64 a0_0, .string a0_1]] rfl (by (try simp only [List.map_toArray, List.map_cons, List.map_nil]); first | done | rfl | (simp only [List.length_drop, List.length_take]; rfl)) ?_; (with_reducible refine (Ob.Gv.id.calls a0_0 a0_1 t104 _ A15.out (HTAB_.out _ (by first | exact Below.refl _ _ | (with_reducible exact Aside0.out (by assumption)) | repeat (first | (with_reducible exact Aside0.out (by assumption)) | apply below_alloc | apply pw_below_drewN | apply below_drew1)))).mono ?_); rintro e w125 ⟨rfl, hb⟩; refine ⟨_, rfl, ?_⟩; have n0_ := Aside0.mk (blk_below (g := gb101) (o := .cells #[.int .i64 a0_0, .string a0_1] 23 (0, 0)) (by (with_reducible repeat (first | refine blk_drewN ?_ _ | refine blk_drew ?_ | refine blk_alloc ?_ _)); exact BK101.out) hb); have n1_ := Aside0.mk (blk_below (g := gb102) (o := .cells #[.int .i64 a1_0, .string a1_1] 23 (0, 0)) (by (with_reducible repeat (first | refine blk_drewN ?_ _ | refine blk_drew ?_ | refine blk_alloc ?_ _)); exact BK102.out) hb); have n2_ := Aside0.mk (below_step (by repeat (first | (with_reducible first | exact HB.out | apply below_alloc | apply pw_below_drewN | apply below_drew1 | refine below_set ?_ GE101.out | refine below_set ?_ GE102.out) | exact HB.out)) hb); clear BK101; clear BK102; clear HB; have BK101 := n0_; have BK102 := n1_; have HB := n2_; clear n0_ n1_ n2_; (try clear hb); (try clear hb2); (try clear hk); (try clear hi); have hcz126_0 : w125.cell? ⟨gb101, 0, none⟩ = some (.int .i64 a0_0) := (blk_cell BK101.out 0).trans rfl; have hcz126_1 : w125.cell? ⟨gb101, 1, none⟩ = some (.string a0_1) := (blk_cell BK101.out 1).trans rfl; have hfz126_0 := blk_frozen BK101.out 0; have hfz126_1 := blk_frozen BK101.out 1) | ((with_reducible refine gate_callee (f := 11) rfl ?_); refine goesL_ (some 24) rfl rfl Tryz.func11 (by kernel_rfl) rfl #[.agg #[.int .i64 a0_0, .string a0_1]] rfl (by (try simp only [List.map_toArray, List.map_cons, List.map_nil]); first | done | rfl | (simp only [List.length_drop, List.length_take]; rfl)) ?_; (with_reducible refine (PObRt.object_Right.calls kj3 a0_0 a0_1 false _ A16.out (HTAB_.out _ (by first | exact Below.refl _ _ | (with_reducible exact Aside0.out (by assumption)) | repeat (first | (with_reducible exact Aside0.out (by assumption)) | apply below_alloc | apply pw_below_drewN | apply below_drew1)))).mono ?_); rintro e w127 ⟨rfl, hb⟩; refine ⟨_, rfl, ?_⟩; have n0_ := Aside0.mk (blk_below (g := gb101) (o := .cells #[.int .i64 a0_0, .string a0_1] 23 (0, 0)) (by (with_reducible repeat (first | refine blk_drewN ?_ _ | refine blk_drew ?_ | refine blk_alloc ?_ _)); exact BK101.out) hb); have n1_ := Aside0.mk (blk_below (g := gb102) (o := .cells #[.int .i64 a1_0, .string a1_1] 23 (0, 0)) (by (with_reducible repeat (first | refine blk_drewN ?_ _ | refine blk_drew ?_ | refine blk_alloc ?_ _)); exact BK102.out) hb); have n2_ := Aside0.mk (below_step (by repeat (first | (with_reducible first | exact HB.out | apply below_alloc | apply pw_below_drewN | apply below_drew1 | refine below_set ?_ GE101.out | refine below_set ?_ GE102.out) | exact HB.out)) hb); clear BK101; clear BK102; clear HB; have BK101 := n0_; have BK102 := n1_; have HB := n2_; clear n0_ n1_ n2_; (try clear hb); (try clear hb2); (try clear hk); (try clear hi)))
      go_ret
      exact ⟨by first | rfl | (simp [errW_none, errW_some] <;> rfl) | (simp [*, errW_none, errW_some] <;> rfl), by repeat (first | (with_reducible first | exact HB.out | apply below_alloc | apply pw_below_drewN | apply below_drew1 | refine below_set ?_ GE101.out | refine below_set ?_ GE102.out) | exact HB.out)⟩
end Go.Proofs.YtefefhhaopjccaaGreatDoor.PObjectNames

namespace Go.Proofs.YtefefhhaopjccaaGreatDoor.Ob
set_option linter.unusedVariables false
set_option linter.unusedSimpArgs false
open Go Go.RowKit Go.Proofs.YtefefhhaopjccaaGreatDoorW.PrintWords Go.Proofs.YtefefhhaopjccaaGreatDoorW.PrintLast Go.Proofs.YtefefhhaopjccaaGreatDoorW.PrintMore PObBase PObDoc PObGet PObRt PObjectNames
theorem wants_ok {k : Int} {d : ByteArray} (h : rightB k d = true) : ∀ x ∈ wantsL k d, nmB x.f0 = true ∧ 1 ≤ x.f1 ∧ x.f1 ≤ 4 := by
  intro x hx
  rcases kind_cases h with rfl | rfl | rfl | rfl
  · rw [wants_1] at hx; cases hx
  · obtain ⟨l, hl, ht, _⟩ := tree_of h
    rw [wants_2 h hl] at hx
    obtain ⟨y, hy, rfl⟩ := List.mem_map.1 hx
    obtain ⟨h1, h3, _, hn⟩ := tree_items ht y hy
    refine ⟨hn, ?_⟩
    show 1 ≤ kindI y.f0 ∧ kindI y.f0 ≤ 4
    unfold kindI
    split
    · omega
    · rw [if_pos (by omega)]; omega
  · obtain ⟨c, hc, ht, _⟩ := change_of h
    obtain ⟨h0, hp, _⟩ := change_parts ht
    rw [wants_3 h hc] at hx
    rcases List.mem_cons.1 hx with rfl | hx
    · exact ⟨h0, by show (1 : Int) ≤ 2; decide, by show (2 : Int) ≤ 4; decide⟩
    · obtain ⟨y, hy, rfl⟩ := List.mem_map.1 hx
      exact ⟨hp y hy, by show (1 : Int) ≤ 3; decide, by show (3 : Int) ≤ 4; decide⟩
  · obtain ⟨c, hc, ht, _⟩ := label_of h
    obtain ⟨h0, h1, h4, _⟩ := label_parts ht
    rw [wants_4 h hc] at hx
    obtain rfl := List.mem_singleton.1 hx
    exact ⟨h0, h1, h4⟩
theorem names_l0 (k : Int) (d : ByteArray) (k2 : Int) (d2 : ByteArray) (hd : d.size ≤ 400000000) (hd2 : d2.size ≤ 400000000) (h : rightB k d = true) : ∀ (q i : Nat), (wantsL k d).length - i = q → i ≤ (wantsL k d).length → Ev (fun n => w04_ObjectNames.l0 n true (idS k d) (wantsL k d) (i : Int) k d k2 d2) true := by
  have hlen := wants_len k d
  intro q
  induction q with
  | zero =>
    intro i hq hi
    have hid : idS k d = nameS (idT k d) := by unfold idS; rw [if_pos h]
    have hnm : nmB (idS k d) = true := by rw [hid]; exact nm_nameS _
    have hfin : (if k = 1 then (if ((wantsL k d).length : Int) = 0 then (if k = 3 then some (decide (((wantsL k d).length : Int) > 0)) else some true) else some false) else (if k = 3 then some (decide (((wantsL k d).length : Int) > 0)) else some true)) = some true := by
      by_cases h1 : k = 1
      · subst h1
        rw [if_pos rfl, wants_1]; rfl
      · rw [if_neg h1]
        by_cases h3 : k = 3
        · subst h3
          obtain ⟨c, hc, _, _⟩ := change_of h
          rw [if_pos rfl, wants_3 h hc, decide_eq_true]
          rw [List.length_cons]; omega
        · rw [if_neg h3]
    refine Ev.step (f := fun n => (r02_Named.f n (idS k d)).bind fun t116 => (if t116 = true then (if (!(k == k2) || (!(d.toList == d2.toList))) = true then some true else ((Gv.id.f k2 d2).bind fun t117 => (if t117.toList = (idS k d).toList then some true else some false))) else some false)) (fun n => ?_) (Ev.bind (rdig_ev (idS k d)) ?_)
    · simp only [w04_ObjectNames.l0]
      rw [if_neg (by omega), hfin]
      rfl
    · rw [hnm]
      refine Ev.congr (fun n => if_pos rfl) ?_
      by_cases he : (!(k == k2) || (!(d.toList == d2.toList))) = true
      · exact Ev.congr (fun n => if_pos he) (Ev.now _)
      · have hk : k = k2 := by
          by_cases hk : k = k2
          · exact hk
          · exact absurd (by simp [hk]) he
        have hdd : d = d2 := by
          by_cases hdd : d.toList = d2.toList
          · exact (toL_inj _ _).1 hdd
          · exact absurd (by simp [hdd]) he
        subst hk hdd
        refine Ev.congr (f := fun _ => some true) (fun n => (if_neg he).trans ?_) (Ev.now _)
        rw [Gv.id.f_eq hd]
        show (if (idS k d).toList = (idS k d).toList then _ else _) = _
        rw [if_pos rfl]
  | succ q ih =>
    intro i hq hi
    have hil : i < (wantsL k d).length := by omega
    obtain ⟨x, hx⟩ : ∃ x, (wantsL k d)[i]? = some x := ⟨_, List.getElem?_eq_getElem hil⟩
    obtain ⟨hn, h1, h4⟩ := wants_ok h x (List.mem_of_getElem? hx)
    have hw := wr1 hil (by omega)
    refine Ev.step (f := fun n => (r02_Named.f n x.f0).bind fun t113 => (if t113 = true then (if x.f1 < 1 then some false else (if x.f1 > 4 then some false else w04_ObjectNames.l0 n true (idS k d) (wantsL k d) ((i + 1 : Nat) : Int) k d k2 d2)) else some false)) (fun n => ?_) (Ev.bind (rdig_ev x.f0) ?_)
    · simp only [w04_ObjectNames.l0]
      rw [if_pos (by omega), if_pos (by omega), rdW hx, hw]
    · rw [hn]
      exact Ev.congr (fun n => (if_pos rfl).trans ((if_neg (by omega)).trans (if_neg (by omega)))) (ih (i + 1) (by omega) (by omega))
theorem names_ev (k : Int) (d : ByteArray) (k2 : Int) (d2 : ByteArray) : Ev (fun n => w04_ObjectNames.f n k d k2 d2) true := by
  have hj : Ev (fun n => w04_ObjectNames.j0 n true true k d k2 d2) true := Ev.step (f := fun _ => some true) (fun n => by simp only [w04_ObjectNames.j0]; exact if_pos trivial) (Ev.now _)
  by_cases h : d.size ≤ 70000
  · by_cases h2 : d2.size ≤ 70000
    · have hd : d.size ≤ 400000000 := by omega
      have hd2 : d2.size ≤ 400000000 := by omega
      refine Ev.congr (f := fun n => w04_ObjectNames.j0 n true false k d k2 d2) (fun n => ?_) ?_
      · show (if (d.size : Int) > 70000 then _ else _) = _
        rw [if_neg (by omega), decide_eq_false (by omega)]
      · cases hr : rightB k d with
        | true =>
          refine Ev.step (f := fun n => (object_Right.f n k d).bind fun t105 => (if t105 = true then (w04_ObjectNames.l0 n true (idS k d) (wantsL k d) 0 k d k2 d2) else (if (idS k d).toList = ([] : List UInt8) then some (((wantsL k d).length : Int) == 0) else some false))) (fun n => ?_) (Ev.bind (right_ev k d hd) ?_)
          · simp only [w04_ObjectNames.j0]
            rw [if_neg (by simp), Gv.id.f_eq hd, Gv.wants.f_eq hd]; rfl
          · rw [hr]
            exact Ev.congr (fun n => if_pos rfl) (names_l0 k d k2 d2 hd hd2 hr (wantsL k d).length 0 (by omega) (by omega))
        | false =>
          refine Ev.step (f := fun n => (object_Right.f n k d).bind fun t105 => (if t105 = true then (w04_ObjectNames.l0 n true (idS k d) (wantsL k d) 0 k d k2 d2) else (if (idS k d).toList = ([] : List UInt8) then some (((wantsL k d).length : Int) == 0) else some false))) (fun n => ?_) (Ev.bind (right_ev k d hd) ?_)
          · simp only [w04_ObjectNames.j0]
            rw [if_neg (by simp), Gv.id.f_eq hd, Gv.wants.f_eq hd]; rfl
          · rw [hr]
            have e1 : idS k d = ⟨#[]⟩ := by unfold idS; rw [hr]; rfl
            refine Ev.congr (f := fun _ => some true) (fun n => (if_neg (by simp)).trans ?_) (Ev.now _)
            rw [e1, if_pos ((toL_nil _).2 rfl), wants_no hr]; rfl
    · refine Ev.congr (fun n => ?_) hj
      show (if (d.size : Int) > 70000 then _ else _) = _
      rw [if_neg (by omega), decide_eq_true (by omega)]
  · refine Ev.congr (fun n => ?_) hj
    show (if (d.size : Int) > 70000 then _ else _) = _
    rw [if_pos (by omega)]
end Go.Proofs.YtefefhhaopjccaaGreatDoor.Ob
