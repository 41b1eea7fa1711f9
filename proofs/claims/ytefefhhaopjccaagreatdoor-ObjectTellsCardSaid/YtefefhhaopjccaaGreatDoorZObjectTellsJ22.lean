/- Joined texts: ObHead, ObGiven3, ObWantsP, PObjectTellsx0, PObjectTellsx1, ObTellsLaw. No condition but what stands in each. -/
import Derived.Test.YtefefhhaopjccaaGreatDoorZObjectTellsJ21
import Derived.Lib.SlBytesConst
import Derived.Test.YtefefhhaopjccaaGreatDoorZObjectTellsJ16
import Derived.Test.YtefefhhaopjccaaGreatDoorProg
import Derived.Below
import Derived.Deep.Draws
import Derived.Deep.AppendLies
import Derived.Maps.AppendAt
import Derived.OwnWalk
import Derived.Laws.BytesArg
import Derived.Laws.MakeOwn
import Derived.Laws.OwnMore
import Derived.Deep.OwnRows
import Derived.Tactics
import Derived.Lib.ConvBytes
import Derived.Laws.Slices
import Derived.WalkKit
import Derived.KernelRfl
import Derived.RowKit3
import Derived.Deep.LoopGhost
import Derived.Deep.QuietTactic
import Derived.BigQuiet
import Derived.WideLaws
import Derived.Deep.DeepCutAuto
import Derived.Deep.CutBlock
import Derived.Deep.RegionHeld3
import Derived.Laws.Rows
import Derived.Lib.AppendStr
import Derived.ArgAppend
import Derived.Laws.IdiomCopy
import Derived.OrdersHeld
import Derived.Laws.BitsLemmas
import Derived.RowKit
import Derived.Test.YtefefhhaopjccaaGreatDoorZObjectTellsJ0
import Derived.Test.YtefefhhaopjccaaGreatDoorZObjectTellsJ2
import Derived.Test.YtefefhhaopjccaaGreatDoorZObjectTellsJ3
namespace Go.Proofs.YtefefhhaopjccaaGreatDoor.Ob
set_option linter.unusedVariables false
set_option linter.unusedSimpArgs false
set_option maxRecDepth 100000
open Go Go.RowKit Go.Proofs.YtefefhhaopjccaaGreatDoorW.PrintWords Go.Proofs.YtefefhhaopjccaaGreatDoorW.PrintLast Go.Proofs.YtefefhhaopjccaaGreatDoorW.PrintMore PObBase
theorem new_C {α : Type} (d : Kd α) (e : TypeId) (W : World) {xs : List α} {inner : List Value} (hr : Reps (d.K (W.alloc (.cells inner.toArray e))) d.sz xs inner) (hm : xs.length ≤ 9223372036854775807) : d.C (W.alloc (.cells inner.toArray e)) (some ⟨W.heap.size, 0, none⟩) xs.length xs := by
  obtain ⟨A, c, hv, _, h⟩ := (OwnRow.lit W W.heap.size hr (Nat.le_refl _) hm : OwnRow (d.K (W.alloc (.cells inner.toArray e))) e d.sz _ _ _ _).reads
  injection hv with h1 h2 h3
  rw [h1]; exact h
theorem name0_walk (w : World) : Calls Tryz.prog 35 #[.slice (some ⟨w.heap.size, 0, none⟩) 7 7] (w.alloc (.cells #[.int .u8 98, .int .u8 108, .int .u8 111, .int .u8 98, .int .u8 32, .int .u8 48, .int .u8 10] 5 (7, 8))) fun e w' => e = .returned (.string (nameS blob0)) ∧ Below w.heap.size w w' := by
  have hC : (Kd.int .u8).C (w.alloc (.cells #[.int .u8 98, .int .u8 108, .int .u8 111, .int .u8 98, .int .u8 32, .int .u8 48, .int .u8 10] 5 (7, 8))) (some ⟨w.heap.size, 0, none⟩) 7 [98, 108, 111, 98, 32, 48, 10] := by
    refine Kd.C_of_reads (enc := Value.int .u8) (d := (0 : Int)) ⟨rfl, by decide, fun _ => ⟨_, rfl, fun j hj => ?_⟩⟩
    have hb : (w.alloc (.cells #[.int .u8 98, .int .u8 108, .int .u8 111, .int .u8 98, .int .u8 32, .int .u8 48, .int .u8 10] 5 (7, 8))).heap[w.heap.size]? = some (.cells #[.int .u8 98, .int .u8 108, .int .u8 111, .int .u8 98, .int .u8 32, .int .u8 48, .int .u8 10] 5 (7, 8)) := by
      show (w.heap.push _)[w.heap.size]? = _
      simp
    rw [add_at, Nat.zero_add]
    unfold World.cell?
    rw [hb]
    rcases (show j = 0 ∨ j = 1 ∨ j = 2 ∨ j = 3 ∨ j = 4 ∨ j = 5 ∨ j = 6 by omega) with rfl | rfl | rfl | rfl | rfl | rfl | rfl <;> rfl
  refine (Dg.rname_calls _ 7 [98, 108, 111, 98, 32, 48, 10] _ hC (Nat.le_refl _) (by decide) (by decide)).mono ?_
  rintro e w' ⟨rfl, hb⟩
  have h1 : Below w.heap.size w (w.alloc (.cells #[.int .u8 98, .int .u8 108, .int .u8 111, .int .u8 98, .int .u8 32, .int .u8 48, .int .u8 10] 5 (7, 8))) := (Below.refl _ _).alloc (Nat.le_refl _) _
  exact ⟨rfl, h1.trans (hb.mono h1.size)⟩
theorem two_items (x y : It) (hx : x.f2.size ≤ 100 ∧ x.f1.size ≤ 100) (hy : y.f2.size ≤ 100 ∧ y.f1.size ≤ 100) (W : World) (ht : Tbl W) : Calls Tryz.prog 19 #[.slice (some ⟨W.heap.size, 0, none⟩) 2 2] (W.alloc (.cells #[.int .i64 x.f0, .string x.f1, .string x.f2, .int .i64 y.f0, .string y.f1, .string y.f2] 54)) fun e w' => e = .returned (.tuple #[.string (putTree [x, y]).1, .bool (putTree [x, y]).2]) ∧ Below W.heap.size W w' := by
  have hb : Below W.heap.size W (W.alloc (.cells #[.int .i64 x.f0, .string x.f1, .string x.f2, .int .i64 y.f0, .string y.f1, .string y.f2] 54)) := (Below.refl _ _).alloc (Nat.le_refl _) _
  have hC := new_C k54 54 W (xs := [x, y]) (((Reps.none _ _).snoc (k54_mk _ x) rfl).snoc (k54_mk _ y) rfl) (by simp)
  refine (putTree_walk _ 2 2 [x, y] _ hC rfl (Nat.le_refl _) (fun z hz => ?_) (by decide) (ht.below hb)).mono ?_
  · rcases List.mem_cons.1 hz with rfl | hz
    · exact ⟨by omega, by omega⟩
    · obtain rfl := List.mem_singleton.1 hz; exact ⟨by omega, by omega⟩
  · rintro e w' ⟨rfl, hb'⟩
    exact ⟨rfl, hb.trans (hb'.mono hb.size)⟩
set_option maxHeartbeats 64000000 in
theorem head_walk (w : World) (ht : Tbl w) : Calls Tryz.prog 10 #[] w fun e w' => e = .returned (.bool true) ∧ Below w.heap.size w w' := by
  have HTB : As (∀ w', Below w.heap.size w w' → Tbl w') := ⟨fun w' hb => ht.below hb⟩
  have hI := id_walk 1 ⟨#[]⟩ (by decide) w ht
  rw [id_0] at hI
  have hN := name0_walk
  have hnm := nm_nameS blob0
  obtain ⟨a, ha_⟩ : ∃ a, nameS blob0 = a := ⟨_, rfl⟩
  rw [ha_] at hnm hI hN
  have hz := nm_size hnm
  have HI := As.mk hI
  have HN := As.mk hN
  have P1 := As.mk (hd1 hnm)
  obtain ⟨o2, h2⟩ := hd2 hnm
  obtain ⟨o3, h3, hs3⟩ := hd3 hnm
  obtain ⟨o4, h4, hs4⟩ := hd4 hnm
  have P2 := As.mk h2
  have P3 := As.mk h3
  have P3w := As.mk (wants_change h3 hs3)
  have P4 := As.mk h4
  have P4r := As.mk (right_label h4 hs4)
  have S3 := As.mk hs3
  have S4 := As.mk hs4
  have HZ := As.mk hz
  have HT1 := As.mk (fun W ht => two_items ⟨3, na, a⟩ ⟨1, nac, a⟩ ⟨by show a.size ≤ _; omega, by show na.size ≤ _; decide⟩ ⟨by show a.size ≤ _; omega, by show nac.size ≤ _; decide⟩ W ht)
  have HT2 := As.mk (fun W ht => two_items ⟨1, nac, a⟩ ⟨3, na, a⟩ ⟨by show a.size ≤ _; omega, by show nac.size ≤ _; decide⟩ ⟨by show a.size ≤ _; omega, by show na.size ≤ _; decide⟩ W ht)
  clear hI hN hnm ha_ h2 h3 h4 hs3 hs4 hz ht
  go_enter Tryz.func10, Tryz.ntmps10
  go_wp2_with (fail)
  refine HI.out.mono ?_
  rintro e w1 ⟨rfl, hb⟩
  have HB1 := As.mk hb
  clear hb
  go_wp2_with (fail)
  refine (HT1.out w1 (HTB.out _ HB1.out)).mono ?_
  rintro e w2 ⟨rfl, hb⟩
  rw [P1.out]
  have HB2 := As.mk (HB1.out.trans (hb.mono HB1.out.size))
  clear hb
  go_wp2_with (fail)
  refine (HT2.out w2 (HTB.out _ HB2.out)).mono ?_
  rintro e w3 ⟨rfl, hb⟩
  rw [P2.out]
  have HB3 := As.mk (HB2.out.trans (hb.mono HB2.out.size))
  clear hb
  go_wp2_with (fail)
  refine (putChange_walk none 0 0 ⟨a, [], nw, nt⟩ ⟨by show a.size ≤ _; have := HZ.out; omega, Nat.zero_le _, (fun p hp => nomatch hp), by show nw.size ≤ _; decide, by show nt.size ≤ _; decide⟩ w3 (Kd.C_nil _ _) rfl (Nat.le_refl _)).mono ?_
  rintro e w4 ⟨rfl, hb⟩
  rw [P3.out]
  have HB4 := As.mk (HB3.out.trans (hb.mono HB3.out.size))
  clear hb
  go_wp2_with (fail)
  refine (wants_walk 3 o3 (by have := S3.out; omega) w4 (HTB.out _ HB4.out)).mono ?_
  rintro e w5 ⟨v, rfl, hR, hb⟩
  rw [P3w.out] at hR
  obtain ⟨A5, c5, rfl, _, hC5⟩ := Kd.R_reads hR
  have HC5 := As.mk hC5
  have HB5 := As.mk (HB4.out.trans (hb.mono HB4.out.size))
  clear hb hR hC5
  go_wp2_with (fail)
  refine (putLabel_walk ⟨a, 1, nn, ⟨#[]⟩⟩ (by show a.size ≤ _; have := HZ.out; omega) (by show nn.size ≤ _; decide) (Nat.zero_le _) w5).mono ?_
  rintro e w6 ⟨rfl, hb⟩
  rw [P4.out]
  have HC6 := As.mk (Kd.C_below HC5.out hb)
  have HB6 := As.mk (HB5.out.trans (hb.mono HB5.out.size))
  clear hb
  have hcv := Lib.run_convert_bytes_const (P := Tryz.prog) w6 62 5 #[.int .u8 98, .int .u8 108, .int .u8 111, .int .u8 98, .int .u8 32, .int .u8 48, .int .u8 10] 7 7 Tryz.underlying62 Tryz.underlying5
  go_wp2_with (fail)
  refine (HN.out _).mono ?_
  rintro e w7 ⟨rfl, hb⟩
  have HC7 := As.mk (Kd.C_below HC6.out hb)
  have HB7 := As.mk (HB6.out.trans (hb.mono HB6.out.size))
  clear hb hcv
  obtain ⟨ad, had, _, hk⟩ := at_T58 HC7.out 0 (by omega) (by show (0 : Int) < 1; decide)
  subst had
  have hk1 : w7.cell? (ad.add 1) = some (.int .i64 2) := hk
  have hk2 : w7.cell? ⟨ad.block, ad.off + 1, none⟩ = some (.int .i64 2) := by rw [← hk1]; rfl
  clear hk
  have R1 := right_walk 4 o4 (by have := S4.out; omega) w7 (HTB.out _ HB7.out)
  rw [P4r.out] at R1
  go_wp2_with (fail)
  refine R1.mono ?_
  rintro e w8 ⟨rfl, hb⟩
  have HB8 := As.mk (HB7.out.trans (hb.mono HB7.out.size))
  clear hb R1 hk1 hk2
  have R2 := right_walk 4 ⟨#[]⟩ (by decide) w8 (HTB.out _ HB8.out)
  rw [right_4e] at R2
  go_wp2_with (fail)
  refine R2.mono ?_
  rintro e w9 ⟨rfl, hb⟩
  have HB9 := As.mk (HB8.out.trans (hb.mono HB8.out.size))
  clear hb R2
  have R3 := right_walk 2 ⟨#[]⟩ (by decide) w9 (HTB.out _ HB9.out)
  rw [right_2e] at R3
  go_wp2_with (fail)
  refine R3.mono ?_
  rintro e w10 ⟨rfl, hb⟩
  have HB10 := As.mk (HB9.out.trans (hb.mono HB9.out.size))
  clear hb R3
  go_wp2_with (fail)
  go_ret
  exact ⟨rfl, HB10.out⟩
namespace Gv
def head.f : Option Bool := some true
theorem head.calls (r : Bool) (w : World) (h : head.f = some r) (ht : Tbl w) : Calls Tryz.prog 10 #[] w fun e w' => e = .returned (.bool r) ∧ Below w.heap.size w w' := by
  obtain rfl := Option.some.inj h
  exact head_walk w ht
end Gv
end Go.Proofs.YtefefhhaopjccaaGreatDoor.Ob

namespace Go.Proofs.YtefefhhaopjccaaGreatDoor.Ob
set_option linter.unusedVariables false
set_option linter.unusedSimpArgs false
open Go Go.RowKit Go.Proofs.YtefefhhaopjccaaGreatDoorW.PrintWords Go.Proofs.YtefefhhaopjccaaGreatDoorW.PrintLast Go.Proofs.YtefefhhaopjccaaGreatDoorW.PrintMore PObBase
namespace Gv
noncomputable def id.f (a0_0 : Int) (a0_1 : ByteArray) : Option ByteArray := if a0_1.size ≤ 400000000 then some (idS a0_0 a0_1) else none
theorem id.f_eq {k : Int} {d : ByteArray} (h : d.size ≤ 400000000) : id.f k d = some (idS k d) := by unfold id.f; rw [if_pos h]
theorem id.calls (a0_0 : Int) (a0_1 : ByteArray) (r : ByteArray) (w : World) (h : id.f a0_0 a0_1 = some r) (ht : Tbl w) :
    Calls Tryz.prog 13 #[.agg #[.int .i64 a0_0, .string a0_1]] w fun e w' => e = .returned (.string r) ∧ Below w.heap.size w w' := by
  unfold id.f at h
  split at h
  · rename_i h0
    obtain rfl := Option.some.inj h
    exact id_walk a0_0 a0_1 h0 w ht
  · cases h
noncomputable def rid.f (a0_0 : Int) (a0_1 : ByteArray) : Option ByteArray := if a0_1.size ≤ 400000000 then some (idS a0_0 a0_1) else none
theorem rid.f_eq {k : Int} {d : ByteArray} (h : d.size ≤ 400000000) : rid.f k d = some (idS k d) := by unfold rid.f; rw [if_pos h]
theorem rid.calls (a0_0 : Int) (a0_1 : ByteArray) (r : ByteArray) (w : World) (h : rid.f a0_0 a0_1 = some r) :
    Calls Tryz.prog 14 #[.agg #[.int .i64 a0_0, .string a0_1]] w fun e w' => e = .returned (.string r) ∧ Below w.heap.size w w' := by
  unfold rid.f at h
  split at h
  · rename_i h0
    obtain rfl := Option.some.inj h
    exact rid_walk a0_0 a0_1 h0 w
  · cases h
noncomputable def wants.f (a0_0 : Int) (a0_1 : ByteArray) : Option (List Wnt) := if a0_1.size ≤ 400000000 then some (wantsL a0_0 a0_1) else none
theorem wants.f_eq {k : Int} {d : ByteArray} (h : d.size ≤ 400000000) : wants.f k d = some (wantsL k d) := by unfold wants.f; rw [if_pos h]
theorem wants.calls (a0_0 : Int) (a0_1 : ByteArray) (r : List Wnt) (w : World) (h : wants.f a0_0 a0_1 = some r) (ht : Tbl w) :
    Calls Tryz.prog 16 #[.agg #[.int .i64 a0_0, .string a0_1]] w fun e w' => ∃ v0_ : Value, e = .returned (v0_) ∧ Kd.R k58 58 w' w.heap.size (fun _ => True) v0_ r ∧ Below w.heap.size w w' := by
  unfold wants.f at h
  split at h
  · rename_i h0
    obtain rfl := Option.some.inj h
    exact wants_walk a0_0 a0_1 h0 w ht
  · cases h
end Gv
end Go.Proofs.YtefefhhaopjccaaGreatDoor.Ob

namespace Go.Proofs.YtefefhhaopjccaaGreatDoor.Ob
set_option linter.unusedVariables false
set_option linter.unusedSimpArgs false
open Go Go.RowKit Go.Proofs.YtefefhhaopjccaaGreatDoorW.PrintWords Go.Proofs.YtefefhhaopjccaaGreatDoorW.PrintLast Go.Proofs.YtefefhhaopjccaaGreatDoorW.PrintMore PObBase PObDoc PObGet PObRt
def wantI (x : It) : Wnt := ⟨x.f2, kindI x.f0⟩
theorem tree_of {d : ByteArray} (h : rightB 2 d = true) : ∃ l, getTree d = (l, true) ∧ treeB l = true ∧ d = treeT l := by
  rw [rightB_2, Bool.and_eq_true] at h
  have hg : getTree d = ((getTree d).1, true) := Prod.ext rfl h.2
  obtain ⟨a, b⟩ := putTree_iff.1 ((getTree_iff d _).1 hg)
  exact ⟨_, hg, a, b⟩
theorem change_of {d : ByteArray} (h : rightB 3 d = true) : ∃ c, getChange d = (c, true) ∧ changeB c = true ∧ d = bs (changeL c) := by
  rw [rightB_3, Bool.and_eq_true] at h
  have hg : getChange d = ((getChange d).1, true) := Prod.ext rfl h.2
  obtain ⟨a, b⟩ := putChange_iff.1 ((getChange_iff d _).1 hg)
  exact ⟨_, hg, a, b⟩
theorem label_of {d : ByteArray} (h : rightB 4 d = true) : ∃ c, getLabel d = (c, true) ∧ labelB c = true ∧ d = bs (labelL c) := by
  rw [rightB_4, Bool.and_eq_true] at h
  have hg : getLabel d = ((getLabel d).1, true) := Prod.ext rfl h.2
  obtain ⟨a, b⟩ := putLabel_iff.1 ((getLabel_iff d _).1 hg)
  exact ⟨_, hg, a, b⟩
theorem wants_1 (d : ByteArray) : wantsL 1 d = [] := by unfold wantsL; split <;> rfl
theorem wants_2 {d : ByteArray} {l : List It} (h : rightB 2 d = true) (hl : getTree d = (l, true)) : wantsL 2 d = l.map wantI := by rw [wantsL, h, if_pos rfl, if_pos rfl, hl]; rfl
theorem wants_3 {d : ByteArray} {c : Chg} (h : rightB 3 d = true) (hl : getChange d = (c, true)) : wantsL 3 d = ⟨c.f0, 2⟩ :: c.f1.map (fun s => ⟨s, 3⟩) := by rw [wantsL, h, if_pos rfl, if_neg (by decide), if_pos rfl, hl]
theorem wants_4 {d : ByteArray} {c : Lab} (h : rightB 4 d = true) (hl : getLabel d = (c, true)) : wantsL 4 d = [⟨c.f0, c.f1⟩] := by rw [wantsL, h, if_pos rfl, if_neg (by decide), if_neg (by decide), if_pos rfl, hl]
theorem wants_no {k : Int} {d : ByteArray} (h : rightB k d = false) : wantsL k d = [] := by rw [wantsL, h]; rfl
theorem kind_cases {k : Int} {d : ByteArray} (h : rightB k d = true) : k = 1 ∨ k = 2 ∨ k = 3 ∨ k = 4 := by
  have := rightB_kind h
  omega
theorem wants_len (k : Int) (d : ByteArray) : (wantsL k d).length ≤ 256 := by
  cases h : rightB k d with
  | false => rw [wants_no h]; exact Nat.zero_le _
  | true =>
    rcases kind_cases h with rfl | rfl | rfl | rfl
    · rw [wants_1]; exact Nat.zero_le _
    · obtain ⟨l, hl, ht, _⟩ := tree_of h
      rw [wants_2 h hl, List.length_map]
      exact (treeB_parts ht).2
    · obtain ⟨c, hc, ht, _⟩ := change_of h
      rw [wants_3 h hc, List.length_cons, List.length_map]
      have := (change_parts ht).2.2.1
      omega
    · obtain ⟨c, hc, ht, _⟩ := label_of h
      rw [wants_4 h hc]; show 1 ≤ 256; decide
theorem rdW {l : List Wnt} {i : Nat} {x : Wnt} (hx : l[i]? = some x) : rd_T58 l (i : Int) = x := by simp [rd_T58, hx]
end Go.Proofs.YtefefhhaopjccaaGreatDoor.Ob

namespace Go.Proofs.YtefefhhaopjccaaGreatDoor.PObjectTells
open Go.Proofs.YtefefhhaopjccaaGreatDoor.PObBase Go.Proofs.YtefefhhaopjccaaGreatDoor.PObGet Go.Proofs.YtefefhhaopjccaaGreatDoor.PObDoc Go.Proofs.YtefefhhaopjccaaGreatDoor.PObRt
open Go.RowKit Go.Proofs.YtefefhhaopjccaaGreatDoorW.PrintWords Go.Proofs.YtefefhhaopjccaaGreatDoorW.PrintLast Go.Proofs.YtefefhhaopjccaaGreatDoorW.PrintMore
attribute [local go_sem] max2_int min2_int max_two min_two max_three min_three max_four min_four   -- for this text's walks alone
set_option linter.unusedVariables false
set_option linter.unusedSimpArgs false
def errW : Option Int → Value
 | none => .nilIface
 | some c => .iface 0 (.int .i64 c)
theorem errW_none : errW none = .nilIface := rfl
theorem errW_some (c : Int) : errW (some c) = .iface 0 (.int .i64 c) := rfl
end Go.Proofs.YtefefhhaopjccaaGreatDoor.PObjectTells

namespace Go.Proofs.YtefefhhaopjccaaGreatDoor.PObjectTells
open Go.Proofs.YtefefhhaopjccaaGreatDoor.PObBase Go.Proofs.YtefefhhaopjccaaGreatDoor.PObGet Go.Proofs.YtefefhhaopjccaaGreatDoor.PObDoc Go.Proofs.YtefefhhaopjccaaGreatDoor.PObRt
open Go.RowKit Go.Proofs.YtefefhhaopjccaaGreatDoorW.PrintWords Go.Proofs.YtefefhhaopjccaaGreatDoorW.PrintLast Go.Proofs.YtefefhhaopjccaaGreatDoorW.PrintMore
attribute [local go_sem] max2_int min2_int max_two min_two max_three min_three max_four min_four   -- for this text's walks alone
set_option linter.unusedVariables false
set_option linter.unusedSimpArgs false
noncomputable def w04_ObjectTells.f (k : Nat) (a0_0 : Int) (a0_1 : ByteArray) : Option (Bool) := (Ob.Gv.head.f).bind fun t102 => (if (a0_1.size : Int) > 70000 then (some t102) else (if t102 = true then ((PObRt.object_Right.f k a0_0 a0_1).bind fun t103 => ((PObDoc.r04_Right.f k a0_0 a0_1).bind fun t104 => (if (t103 == t104) = true then ((Ob.Gv.id.f a0_0 a0_1).bind fun t105 => ((Ob.Gv.rid.f a0_0 a0_1).bind fun t106 => (if t105.toList = t106.toList then ((Ob.Gv.wants.f a0_0 a0_1).bind fun t107 => ((PObDoc.r04_Wants.f k a0_0 a0_1).bind fun t110 => ((PObBase.r04_SameWants.f k t107 t110).bind fun t113 => (some t113)))) else (some false)))) else (some false)))) else (some false)))
def w04_ObjectTells.T4 : Bool × List (List Nat × List Nat) := (true, [([], []), ([0], [0]), ([1], [1]), ([2, 1, 1], [1, 2]), ([1], [1]), ([4, 3, 1], [1, 4]), ([3, 5, 1], [1, 3, 5]), ([1, 6], [1, 6]), ([7, 5], [7]), ([8], [8]), ([9, 8, 8], [8, 9]), ([8], [8]), ([11, 10, 8], [8, 11]), ([10, 12, 8], [8, 10, 12]), ([8, 13], [8, 13]), ([14, 12], [14]), ([15], [15]), ([16, 15, 15], [15, 16]), ([15], [15]), ([18, 17, 15], [15, 18]), ([17, 19, 19, 15], [15, 17, 19]), ([15, 20], [15, 20]), ([21, 20, 0, 1, 2, 3, 4, 5, 6, 7, 8, 9, 10, 11, 12, 13, 14, 15, 16, 17, 18, 19, 20, 21], [21])])
def w04_ObjectTells.B4 : List Nat := [0, 1, 3, 7, 3, 31, 63, 127, 255, 511, 1023, 511, 4095, 8191, 16383, 32767, 65535, 131071, 65535, 524287, 1048575, 2097151, 4194303]
theorem w04_ObjectTells.tab4 : rtab .any (opsOf Tryz.f3 4) = w04_ObjectTells.T4 := by kernel_rfl
theorem w04_ObjectTells.bits4 : waitsOk w04_ObjectTells.T4.2 w04_ObjectTells.B4 = true := by kernel_rfl
set_option maxHeartbeats 8000000 in
set_option maxRecDepth 100000 in
theorem w04_ObjectTells.calls (k : Nat) (a0_0 : Int) (a0_1 : ByteArray) (r : Bool) (w : World) (h : w04_ObjectTells.f k a0_0 a0_1 = some r) (ht_ : Lib.TabIs Tryz.prog w "internal/strconv.uint64pow10" .u64 Lib.pow10Tab) :
  Calls Tryz.prog 3 #[.agg #[.int .i64 a0_0, .string a0_1]] w fun e w' => e = .returned (.bool r) ∧ Below w.heap.size w w' := by
 have HTAB_ : Aside0 (∀ w_ : World, Below w.heap.size w w_ → Lib.TabIs Tryz.prog w_ "internal/strconv.uint64pow10" .u64 Lib.pow10Tab) := Aside0.mk (fun w_ hb_ => Lib.tabBelow_of_tabIs ht_ w_ hb_)
 clear ht_
 have hu23 := Tryz.underlying23
 have HB := Aside0.mk (Below.refl w.heap.size w)
 have H : ((Ob.Gv.head.f).bind fun t102 => (if (a0_1.size : Int) > 70000 then (some t102) else (if t102 = true then ((PObRt.object_Right.f k a0_0 a0_1).bind fun t103 => ((PObDoc.r04_Right.f k a0_0 a0_1).bind fun t104 => (if (t103 == t104) = true then ((Ob.Gv.id.f a0_0 a0_1).bind fun t105 => ((Ob.Gv.rid.f a0_0 a0_1).bind fun t106 => (if t105.toList = t106.toList then ((Ob.Gv.wants.f a0_0 a0_1).bind fun t107 => ((PObDoc.r04_Wants.f k a0_0 a0_1).bind fun t110 => ((PObBase.r04_SameWants.f k t107 t110).bind fun t113 => (some t113)))) else (some false)))) else (some false)))) else (some false)))) = some r := h
 clear h
 replace H := Option.bind_eq_some_iff.mp H
 obtain ⟨t102, A20, H⟩ := H
 replace H : (if (a0_1.size : Int) > 70000 then (some t102) else (if t102 = true then ((PObRt.object_Right.f k a0_0 a0_1).bind fun t103 => ((PObDoc.r04_Right.f k a0_0 a0_1).bind fun t104 => (if (t103 == t104) = true then ((Ob.Gv.id.f a0_0 a0_1).bind fun t105 => ((Ob.Gv.rid.f a0_0 a0_1).bind fun t106 => (if t105.toList = t106.toList then ((Ob.Gv.wants.f a0_0 a0_1).bind fun t107 => ((PObDoc.r04_Wants.f k a0_0 a0_1).bind fun t110 => ((PObBase.r04_SameWants.f k t107 t110).bind fun t113 => (some t113)))) else (some false)))) else (some false)))) else (some false))) = some r := H
 have A2 := Aside0.mk A20
 clear A20
 by_cases c3 : (a0_1.size : Int) > 70000
 ·
  rw [if_pos c3] at H
  have c3b0 : decide (70000 < (a0_1.size : Int)) = true := decide_eq_true c3
  have c3b1 : decide (70000 < a0_1.size) = true := decide_eq_true (by omega)
  clear c3
  obtain rfl := Option.some.inj H
  go_enter Tryz.func3, Tryz.ntmps3
  go_wp2_with (first | ((with_reducible refine gate_dst (N := 1) rfl ?_); refine box_event ?hg (N := 1) ?hd (cs := #[.int .i64 a0_0, .string a0_1]) (t := 23) ?hr ?_; (case hd => rfl); (case hg => rfl); (case hr => first | (go_simp; done) | (go_simp; rfl)); intro gb101 hg w4 hbox hb; have n0_ := Aside0.mk (below_step bw_ hb); have n1_ := Aside0.mk (hbox); have n2_ := Aside0.mk ((by rw [hg]; exact (below_size bw_) : w.heap.size ≤ gb101)); have n3_ := Aside0.mk ((by rw [hg]; exact (below_size bw_) : w.heap.size ≤ gb101)); clear HB; have HB := n0_; have BK101 := n1_; have GW101 := n2_; have GE101 := n3_; clear n0_ n1_ n2_ n3_; clear hb hbox hg) | ((with_reducible refine gate_callee (f := 10) rfl ?_); refine goesL_ (some 4) rfl rfl Tryz.func10 (by kernel_rfl) rfl #[] rfl la_ ?_; (with_reducible refine (Ob.Gv.head.calls  t102 _ A2.out (HTAB_.out _ (by first | exact Below.refl _ _ | (with_reducible exact Aside0.out (by assumption)) | repeat (first | (with_reducible exact Aside0.out (by assumption)) | apply below_alloc | apply pw_below_drewN | apply below_drew1)))).mono ?_); rintro e w5 ⟨rfl, hb⟩; refine ⟨_, rfl, ?_⟩; have n0_ := Aside0.mk (blk_below (g := gb101) (o := .cells #[.int .i64 a0_0, .string a0_1] 23 (0, 0)) (by (with_reducible repeat (first | refine blk_drewN ?_ _ | refine blk_drew ?_ | refine blk_alloc ?_ _)); exact BK101.out) hb); have n1_ := Aside0.mk (below_step (by repeat (first | (with_reducible first | exact HB.out | apply below_alloc | apply pw_below_drewN | apply below_drew1 | refine below_set ?_ GE101.out) | exact HB.out)) hb); clear BK101; clear HB; have BK101 := n0_; have HB := n1_; clear n0_ n1_; (try clear hb); (try clear hb2); (try clear hk); (try clear hi); have hcz6_0 : w5.cell? ⟨gb101, 0, none⟩ = some (.int .i64 a0_0) := (blk_cell BK101.out 0).trans rfl; have hcz6_1 : w5.cell? ⟨gb101, 1, none⟩ = some (.string a0_1) := (blk_cell BK101.out 1).trans rfl; have hfz6_0 := blk_frozen BK101.out 0; have hfz6_1 := blk_frozen BK101.out 1))
  go_ret
  exact ⟨er_, by repeat (first | (with_reducible first | exact HB.out | apply below_alloc | apply pw_below_drewN | apply below_drew1 | refine below_set ?_ GE101.out) | exact HB.out)⟩
 ·
  rw [if_neg c3] at H
  have c3b0 : decide (70000 < (a0_1.size : Int)) = false := decide_eq_false c3
  have c3b1 : decide (70000 < a0_1.size) = false := decide_eq_false (by omega)
  clear c3
  by_cases c7 : t102 = true
  ·
   subst c7
   have H1 : ((PObRt.object_Right.f k a0_0 a0_1).bind fun t103 => ((PObDoc.r04_Right.f k a0_0 a0_1).bind fun t104 => (if (t103 == t104) = true then ((Ob.Gv.id.f a0_0 a0_1).bind fun t105 => ((Ob.Gv.rid.f a0_0 a0_1).bind fun t106 => (if t105.toList = t106.toList then ((Ob.Gv.wants.f a0_0 a0_1).bind fun t107 => ((PObDoc.r04_Wants.f k a0_0 a0_1).bind fun t110 => ((PObBase.r04_SameWants.f k t107 t110).bind fun t113 => (some t113)))) else (some false)))) else (some false)))) = some r := by rw [if_pos rfl] at H; exact H
   clear H
   have H := H1
   clear H1
   replace H := Option.bind_eq_some_iff.mp H
   obtain ⟨t103, A80, H⟩ := H
   replace H : ((PObDoc.r04_Right.f k a0_0 a0_1).bind fun t104 => (if (t103 == t104) = true then ((Ob.Gv.id.f a0_0 a0_1).bind fun t105 => ((Ob.Gv.rid.f a0_0 a0_1).bind fun t106 => (if t105.toList = t106.toList then ((Ob.Gv.wants.f a0_0 a0_1).bind fun t107 => ((PObDoc.r04_Wants.f k a0_0 a0_1).bind fun t110 => ((PObBase.r04_SameWants.f k t107 t110).bind fun t113 => (some t113)))) else (some false)))) else (some false))) = some r := H
   have A8 := Aside0.mk A80
   clear A80
   replace H := Option.bind_eq_some_iff.mp H
   obtain ⟨t104, A90, H⟩ := H
   replace H : (if (t103 == t104) = true then ((Ob.Gv.id.f a0_0 a0_1).bind fun t105 => ((Ob.Gv.rid.f a0_0 a0_1).bind fun t106 => (if t105.toList = t106.toList then ((Ob.Gv.wants.f a0_0 a0_1).bind fun t107 => ((PObDoc.r04_Wants.f k a0_0 a0_1).bind fun t110 => ((PObBase.r04_SameWants.f k t107 t110).bind fun t113 => (some t113)))) else (some false)))) else (some false)) = some r := H
   have A9 := Aside0.mk A90
   clear A90
   by_cases c10 : (t103 == t104) = true
   ·
    rw [if_pos c10] at H
    have c10b0 : (t103 == t104) = true := c10
    (try (have c10b1 : decide (t103 = t104) = true := by simpa using c10))
    (try (have c10b2 : (t103 == t104) = true := by simpa using c10))
    clear c10
    replace H := Option.bind_eq_some_iff.mp H
    obtain ⟨t105, A110, H⟩ := H
    replace H : ((Ob.Gv.rid.f a0_0 a0_1).bind fun t106 => (if t105.toList = t106.toList then ((Ob.Gv.wants.f a0_0 a0_1).bind fun t107 => ((PObDoc.r04_Wants.f k a0_0 a0_1).bind fun t110 => ((PObBase.r04_SameWants.f k t107 t110).bind fun t113 => (some t113)))) else (some false))) = some r := H
    have A11 := Aside0.mk A110
    clear A110
    replace H := Option.bind_eq_some_iff.mp H
    obtain ⟨t106, A120, H⟩ := H
    replace H : (if t105.toList = t106.toList then ((Ob.Gv.wants.f a0_0 a0_1).bind fun t107 => ((PObDoc.r04_Wants.f k a0_0 a0_1).bind fun t110 => ((PObBase.r04_SameWants.f k t107 t110).bind fun t113 => (some t113)))) else (some false)) = some r := H
    have A12 := Aside0.mk A120
    clear A120
    by_cases c13 : t105.toList = t106.toList
    ·
     rw [if_pos c13] at H
     have c13b0 : (t105.toList == t106.toList) = true := beq_iff_eq.mpr c13
     have c13b1 : (t105.toList != t106.toList) = false := bne_eq_false_iff_eq.mpr c13
     clear c13
     replace H := Option.bind_eq_some_iff.mp H
     obtain ⟨t107, A140, H⟩ := H
     replace H : ((PObDoc.r04_Wants.f k a0_0 a0_1).bind fun t110 => ((PObBase.r04_SameWants.f k t107 t110).bind fun t113 => (some t113))) = some r := H
     have A14 := Aside0.mk A140
     clear A140
     replace H := Option.bind_eq_some_iff.mp H
     obtain ⟨t110, A150, H⟩ := H
     replace H : ((PObBase.r04_SameWants.f k t107 t110).bind fun t113 => (some t113)) = some r := H
     have A15 := Aside0.mk A150
     clear A150
     replace H := Option.bind_eq_some_iff.mp H
     obtain ⟨t113, A160, H⟩ := H
     replace H : (some t113) = some r := H
     have A16 := Aside0.mk A160
     clear A160
     obtain rfl := Option.some.inj H
     go_enter Tryz.func3, Tryz.ntmps3
     try go_wp2_with (first | ((with_reducible refine gate_dst (N := 1) rfl ?_); refine box_event ?hg (N := 1) ?hd (cs := #[.int .i64 a0_0, .string a0_1]) (t := 23) ?hr ?_; (case hd => rfl); (case hg => rfl); (case hr => first | (go_simp; done) | (go_simp; rfl)); intro gb101 hg w17 hbox hb; have n0_ := Aside0.mk (below_step bw_ hb); have n1_ := Aside0.mk (hbox); have n2_ := Aside0.mk ((by rw [hg]; exact (below_size bw_) : w.heap.size ≤ gb101)); have n3_ := Aside0.mk ((by rw [hg]; exact (below_size bw_) : w.heap.size ≤ gb101)); clear HB; have HB := n0_; have BK101 := n1_; have GW101 := n2_; have GE101 := n3_; clear n0_ n1_ n2_ n3_; clear hb hbox hg) | ((with_reducible refine gate_callee (f := 10) rfl ?_); refine goesL_ (some 4) rfl rfl Tryz.func10 (by kernel_rfl) rfl #[] rfl la_ ?_; (with_reducible refine (Ob.Gv.head.calls  true _ A2.out (HTAB_.out _ (by first | exact Below.refl _ _ | (with_reducible exact Aside0.out (by assumption)) | repeat (first | (with_reducible exact Aside0.out (by assumption)) | apply below_alloc | apply pw_below_drewN | apply below_drew1)))).mono ?_); rintro e w18 ⟨rfl, hb⟩; refine ⟨_, rfl, ?_⟩; have n0_ := Aside0.mk (blk_below (g := gb101) (o := .cells #[.int .i64 a0_0, .string a0_1] 23 (0, 0)) (by (with_reducible repeat (first | refine blk_drewN ?_ _ | refine blk_drew ?_ | refine blk_alloc ?_ _)); exact BK101.out) hb); have n1_ := Aside0.mk (below_step (by repeat (first | (with_reducible first | exact HB.out | apply below_alloc | apply pw_below_drewN | apply below_drew1 | refine below_set ?_ GE101.out) | exact HB.out)) hb); clear BK101; clear HB; have BK101 := n0_; have HB := n1_; clear n0_ n1_; (try clear hb); (try clear hb2); (try clear hk); (try clear hi); have hcz19_0 : w18.cell? ⟨gb101, 0, none⟩ = some (.int .i64 a0_0) := (blk_cell BK101.out 0).trans rfl; have hcz19_1 : w18.cell? ⟨gb101, 1, none⟩ = some (.string a0_1) := (blk_cell BK101.out 1).trans rfl; have hfz19_0 := blk_frozen BK101.out 0; have hfz19_1 := blk_frozen BK101.out 1))
     have n0_ := Aside0.mk (blk_drew BK101.out)
     have n1_ := Aside0.mk (below_drew1 HB.out)
     clear BK101
     clear HB
     have BK101 := n0_
     have HB := n1_
     clear n0_ n1_
     refine start_ (n := 23) (S := fun w' => w'.cell? ⟨gb101, 0, none⟩ = some (.int .i64 a0_0) ∧ w'.cell? ⟨gb101, 1, none⟩ = some (.string a0_1)) (ds := []) (bl_ 23 0) (by kernel_rfl) rfl rfl ⟨(blk_cell BK101.out 0).trans rfl, (blk_cell BK101.out 1).trans rfl⟩ (fun hHeld => ?_); refine with_tabW w04_ObjectTells.tab4 w04_ObjectTells.bits4 (fun HT_ HW_ => ?_)
     generalize w18.drew = w20 at BK101 HB hHeld ⊢
     refine pv_ 0 10 (bl_ 23 1) ?_
     refine pv_ 1 11 (bl_ 23 3) ?_
     refine tk_ 2 12 (bl_ 23 7) hHeld (hv := by rintro w' ⟨s0, s1⟩; go_simp; with_reducible rfl) (h := ?_)
     refine tk_ 4 14 (bl_ 23 23) hHeld (hv := by rintro w' ⟨s0, s1⟩; go_simp; with_reducible rfl) (h := ?_)
     refine one_ (i := 3) (N := some 13) (bl_ 23 31) rfl rfl (one_of HT_.out (by kernel_rfl)) (by decide) (fun K hK => ?_)
     refine goes_ Tryz.func11 (by kernel_rfl) rfl #[.agg #[.int .i64 a0_0, .string a0_1]] (by rfl) rfl rfl la_ ?_
     with_reducible refine (PObRt.object_Right.calls k a0_0 a0_1 t103 _ A8.out (HTAB_.out _ (by first | exact Below.refl _ _ | (with_reducible exact Aside0.out (by assumption)) | repeat (first | (with_reducible exact Aside0.out (by assumption)) | apply below_alloc | apply pw_below_drewN | apply below_drew1)))).mono ?_
     rintro e w21 ⟨rfl, hb⟩
     refine ⟨_, rfl, ?_⟩
     have n0_ := Aside0.mk (blk_below (g := gb101) (o := .cells #[.int .i64 a0_0, .string a0_1] 23 (0, 0)) (by (with_reducible repeat (first | refine blk_drewN ?_ _ | refine blk_drew ?_ | refine blk_alloc ?_ _)); exact BK101.out) hb)
     have n1_ := Aside0.mk (below_step (by repeat (first | (with_reducible first | exact HB.out | apply below_alloc | apply pw_below_drewN | apply below_drew1 | refine below_set ?_ GE101.out) | exact HB.out)) hb)
     clear BK101
     clear HB
     have BK101 := n0_
     have HB := n1_
     clear n0_ n1_
     (try clear hb)
     (try clear hb2)
     (try clear hk)
     (try clear hi)
     refine hK.out _ _ ⟨(blk_cell BK101.out 0).trans rfl, (blk_cell BK101.out 1).trans rfl⟩ (fun hHeld => ?_)
     clear hK K
     refine norm_ (a' := ?_) ?_ ?_
     rotate_left
     ·
      show Act.put _ (some 13) _ = _
      simp only [ps_]
      rfl
     refine one_ (i := 5) (N := some 15) (bl_ 23 63) rfl rfl (one_of HT_.out (by kernel_rfl)) (by decide) (fun K hK => ?_)
     refine goes_ Tryz.func12 (by kernel_rfl) rfl #[.agg #[.int .i64 a0_0, .string a0_1]] (by rfl) rfl rfl la_ ?_
     with_reducible refine (PObDoc.r04_Right.calls k a0_0 a0_1 t104 _ A9.out).mono ?_
     rintro e w22 ⟨rfl, hb⟩
     refine ⟨_, rfl, ?_⟩
     have n0_ := Aside0.mk (blk_below (g := gb101) (o := .cells #[.int .i64 a0_0, .string a0_1] 23 (0, 0)) (by (with_reducible repeat (first | refine blk_drewN ?_ _ | refine blk_drew ?_ | refine blk_alloc ?_ _)); exact BK101.out) hb)
     have n1_ := Aside0.mk (below_step (by repeat (first | (with_reducible first | exact HB.out | apply below_alloc | apply pw_below_drewN | apply below_drew1 | refine below_set ?_ GE101.out) | exact HB.out)) hb)
     clear BK101
     clear HB
     have BK101 := n0_
     have HB := n1_
     clear n0_ n1_
     (try clear hb)
     (try clear hb2)
     (try clear hk)
     (try clear hi)
     refine hK.out _ _ ⟨(blk_cell BK101.out 0).trans rfl, (blk_cell BK101.out 1).trans rfl⟩ (fun hHeld => ?_)
     clear hK K
     refine norm_ (a' := ?_) ?_ ?_
     rotate_left
     ·
      show Act.put _ (some 15) _ = _
      simp only [ps_]
      rfl
     refine pv_ 6 16 (bl_ 23 127) ?_
     refine pv_ 7 17 (bl_ 23 255) ?_
     refine pv_ 8 18 (bl_ 23 511) ?_
     refine tk_ 9 19 (bl_ 23 1023) hHeld (hv := by rintro w' ⟨s0, s1⟩; go_simp; with_reducible rfl) (h := ?_)
     refine tk_ 11 21 (bl_ 23 3071) hHeld (hv := by rintro w' ⟨s0, s1⟩; go_simp; with_reducible rfl) (h := ?_)
     refine one_ (i := 10) (N := some 20) (bl_ 23 4095) rfl rfl (one_of HT_.out (by kernel_rfl)) (by decide) (fun K hK => ?_)
     refine goes_ Tryz.func13 (by kernel_rfl) rfl #[.agg #[.int .i64 a0_0, .string a0_1]] (by rfl) rfl rfl la_ ?_
     with_reducible refine (Ob.Gv.id.calls a0_0 a0_1 t105 _ A11.out (HTAB_.out _ (by first | exact Below.refl _ _ | (with_reducible exact Aside0.out (by assumption)) | repeat (first | (with_reducible exact Aside0.out (by assumption)) | apply below_alloc | apply pw_below_drewN | apply below_drew1)))).mono ?_
     rintro e w23 ⟨rfl, hb⟩
     refine ⟨_, rfl, ?_⟩
     have n0_ := Aside0.mk (blk_below (g := gb101) (o := .cells #[.int .i64 a0_0, .string a0_1] 23 (0, 0)) (by (with_reducible repeat (first | refine blk_drewN ?_ _ | refine blk_drew ?_ | refine blk_alloc ?_ _)); exact BK101.out) hb)
     have n1_ := Aside0.mk (below_step (by repeat (first | (with_reducible first | exact HB.out | apply below_alloc | apply pw_below_drewN | apply below_drew1 | refine below_set ?_ GE101.out) | exact HB.out)) hb)
     clear BK101
     clear HB
     have BK101 := n0_
     have HB := n1_
     clear n0_ n1_
     (try clear hb)
     (try clear hb2)
     (try clear hk)
     (try clear hi)
     refine hK.out _ _ ⟨(blk_cell BK101.out 0).trans rfl, (blk_cell BK101.out 1).trans rfl⟩ (fun hHeld => ?_)
     clear hK K
     refine norm_ (a' := ?_) ?_ ?_
     rotate_left
     ·
      show Act.put _ (some 20) _ = _
      simp only [ps_]
      rfl
     refine one_ (i := 12) (N := some 22) (bl_ 23 8191) rfl rfl (one_of HT_.out (by kernel_rfl)) (by decide) (fun K hK => ?_)
     refine goes_ Tryz.func14 (by kernel_rfl) rfl #[.agg #[.int .i64 a0_0, .string a0_1]] (by rfl) rfl rfl la_ ?_
     with_reducible refine (Ob.Gv.rid.calls a0_0 a0_1 t106 _ A12.out).mono ?_
     rintro e w24 ⟨rfl, hb⟩
     refine ⟨_, rfl, ?_⟩
     have n0_ := Aside0.mk (blk_below (g := gb101) (o := .cells #[.int .i64 a0_0, .string a0_1] 23 (0, 0)) (by (with_reducible repeat (first | refine blk_drewN ?_ _ | refine blk_drew ?_ | refine blk_alloc ?_ _)); exact BK101.out) hb)
     have n1_ := Aside0.mk (below_step (by repeat (first | (with_reducible first | exact HB.out | apply below_alloc | apply pw_below_drewN | apply below_drew1 | refine below_set ?_ GE101.out) | exact HB.out)) hb)
     clear BK101
     clear HB
     have BK101 := n0_
     have HB := n1_
     clear n0_ n1_
     (try clear hb)
     (try clear hb2)
     (try clear hk)
     (try clear hi)
     refine hK.out _ _ ⟨(blk_cell BK101.out 0).trans rfl, (blk_cell BK101.out 1).trans rfl⟩ (fun hHeld => ?_)
     clear hK K
     refine norm_ (a' := ?_) ?_ ?_
     rotate_left
     ·
      show Act.put _ (some 22) _ = _
      simp only [ps_]
      rfl
     refine pv_ 13 23 (bl_ 23 16383) ?_
     refine pv_ 14 24 (bl_ 23 32767) ?_
     refine pv_ 15 25 (bl_ 23 65535) ?_
     refine tk_ 16 26 (bl_ 23 131071) hHeld (hv := by rintro w' ⟨s0, s1⟩; go_simp; with_reducible rfl) (h := ?_)
     refine tk_ 18 28 (bl_ 23 393215) hHeld (hv := by rintro w' ⟨s0, s1⟩; go_simp; with_reducible rfl) (h := ?_)
     refine one_ (i := 17) (N := some 27) (bl_ 23 524287) rfl rfl (one_of HT_.out (by kernel_rfl)) (by decide) (fun K hK => ?_)
     refine goes_ Tryz.func16 (by kernel_rfl) rfl #[.agg #[.int .i64 a0_0, .string a0_1]] (by rfl) rfl rfl la_ ?_
     with_reducible refine (Ob.Gv.wants.calls a0_0 a0_1 t107 _ A14.out (HTAB_.out _ (by first | exact Below.refl _ _ | (with_reducible exact Aside0.out (by assumption)) | repeat (first | (with_reducible exact Aside0.out (by assumption)) | apply below_alloc | apply pw_below_drewN | apply below_drew1)))).mono ?_
     rintro e w25 ⟨v108, rfl, ho0, hb⟩
     refine ⟨_, rfl, ?_⟩
     have n0_ := Aside0.mk (Kd.R_lower ho0 (below_size (by repeat (first | (with_reducible first | exact HB.out | apply below_alloc | apply pw_below_drewN | apply below_drew1 | refine below_set ?_ GE101.out) | exact HB.out))))
     have n1_ := Aside0.mk (blk_below (g := gb101) (o := .cells #[.int .i64 a0_0, .string a0_1] 23 (0, 0)) (by (with_reducible repeat (first | refine blk_drewN ?_ _ | refine blk_drew ?_ | refine blk_alloc ?_ _)); exact BK101.out) hb)
     have n2_ := Aside0.mk (below_step (by repeat (first | (with_reducible first | exact HB.out | apply below_alloc | apply pw_below_drewN | apply below_drew1 | refine below_set ?_ GE101.out) | exact HB.out)) hb)
     clear BK101
     clear HB
     have HO109 := n0_
     have BK101 := n1_
     have HB := n2_
     clear n0_ n1_ n2_
     (try clear hb)
     (try clear hb2)
     (try clear hk)
     (try clear hi)
     (try clear ho0)
     refine hK.out _ _ ⟨(blk_cell BK101.out 0).trans rfl, (blk_cell BK101.out 1).trans rfl⟩ (fun hHeld => ?_)
     clear hK K
     refine norm_ (a' := ?_) ?_ ?_
     rotate_left
     ·
      show Act.put _ (some 27) _ = _
      simp only [ps_]
      rfl
     refine one_ (i := 19) (N := some 29) (bl_ 23 1048575) rfl rfl (one_of HT_.out (by kernel_rfl)) (by decide) (fun K hK => ?_)
     refine goes_ Tryz.func17 (by kernel_rfl) rfl #[.agg #[.int .i64 a0_0, .string a0_1]] (by rfl) rfl rfl la_ ?_
     with_reducible refine (PObDoc.r04_Wants.calls k a0_0 a0_1 t110 _ A15.out).mono ?_
     rintro e w26 ⟨v111, rfl, ho0, hb⟩
     refine ⟨_, rfl, ?_⟩
     have n0_ := Aside0.mk (Kd.R_elder' (by (with_reducible repeat (first | apply Kd.R_alloc | apply Kd.R_drewN | apply Kd.R_drew)); exact HO109.out) (Kd.R_base ho0) hb)
     have n1_ := Aside0.mk (Kd.R_lower (Kd.R_new' ho0 (Kd.R_lt (by (with_reducible repeat (first | apply Kd.R_alloc | apply Kd.R_drewN | apply Kd.R_drew)); exact HO109.out))) (below_size (by repeat (first | (with_reducible first | exact HB.out | apply below_alloc | apply pw_below_drewN | apply below_drew1 | refine below_set ?_ GE101.out) | exact HB.out))))
     have n2_ := Aside0.mk (blk_below (g := gb101) (o := .cells #[.int .i64 a0_0, .string a0_1] 23 (0, 0)) (by (with_reducible repeat (first | refine blk_drewN ?_ _ | refine blk_drew ?_ | refine blk_alloc ?_ _)); exact BK101.out) hb)
     have n3_ := Aside0.mk (below_step (by repeat (first | (with_reducible first | exact HB.out | apply below_alloc | apply pw_below_drewN | apply below_drew1 | refine below_set ?_ GE101.out) | exact HB.out)) hb)
     clear HO109
     clear BK101
     clear HB
     have HO109 := n0_
     have HO112 := n1_
     have BK101 := n2_
     have HB := n3_
     clear n0_ n1_ n2_ n3_
     (try clear hb)
     (try clear hb2)
     (try clear hk)
     (try clear hi)
     (try clear ho0)
     obtain ⟨Ao27, co27, eo27⟩ := Kd.R_slice HO109.out
     (first | subst eo27 | (injection eo27 with f1_ f2_ f3_; have f4_ := f1_.symm; have f5_ := f3_.symm; clear f1_ f2_ f3_; subst f4_; subst f5_))
     obtain ⟨Ao28, co28, eo28⟩ := Kd.R_slice HO112.out
     (first | subst eo28 | (injection eo28 with f1_ f2_ f3_; have f4_ := f1_.symm; have f5_ := f3_.symm; clear f1_ f2_ f3_; subst f4_; subst f5_))
     refine hK.out _ _ ⟨(blk_cell BK101.out 0).trans rfl, (blk_cell BK101.out 1).trans rfl⟩ (fun hHeld => ?_)
     clear hK K
     refine norm_ (a' := ?_) ?_ ?_
     rotate_left
     ·
      show Act.put _ (some 29) _ = _
      simp only [ps_]
      rfl
     refine one_ (i := 20) (N := some 30) (bl_ 23 2097151) rfl rfl (one_of HT_.out (by kernel_rfl)) (by decide) (fun K hK => ?_)
     refine goes_ Tryz.func15 (by kernel_rfl) rfl #[.slice Ao27 t107.length co27, .slice Ao28 t110.length co28] (by rfl) rfl rfl la_ ?_
     with_reducible refine (PObBase.r04_SameWants.calls k _ _ t107 _ _ t110 t113 _ ?side1 ?side2 ?side3 ?side4 A16.out).mono ?_
     (case side1 => repeat (first | exact (Kd.R_reads' HO109.out).2.2 | (with_reducible refine Kd.C_alloc ?_ _) | (with_reducible refine Kd.C_drewN ?_ _) | (with_reducible refine Kd.C_drew ?_)))
     (case side2 => exact (Kd.R_reads' HO109.out).2.1)
     (case side3 => repeat (first | exact (Kd.R_reads' HO112.out).2.2 | (with_reducible refine Kd.C_alloc ?_ _) | (with_reducible refine Kd.C_drewN ?_ _) | (with_reducible refine Kd.C_drew ?_)))
     (case side4 => exact (Kd.R_reads' HO112.out).2.1)
     rintro e w' ⟨rfl, ⟨nd, rfl⟩⟩
     refine ⟨_, rfl, ?_⟩
     refine hK.out _ _ ⟨(blk_cell BK101.out 0).trans rfl, (blk_cell BK101.out 1).trans rfl⟩ (fun hHeld => ?_)
     clear hK K
     refine norm_ (a' := ?_) ?_ ?_
     rotate_left
     ·
      show Act.put _ (some 30) _ = _
      simp only [ps_]
      rfl
     refine pv_ 21 31 (bl_ 23 4194303) ?_
     refine pv_ 22 2 (bl_ 23 8388607) ?_
     refine done_ (done_of HT_.out (by kernel_rfl)) ?_
     try go_wp2
     go_ret
     exact ⟨er_, by repeat (first | (with_reducible first | exact HB.out | apply below_alloc | apply pw_below_drewN | apply below_drew1 | refine below_set ?_ GE101.out) | exact HB.out)⟩
    ·
     rw [if_neg c13] at H
     have c13b0 : (t105.toList == t106.toList) = false := beq_eq_false_iff_ne.mpr c13
     have c13b1 : (t105.toList != t106.toList) = true := bne_iff_ne.mpr c13
     obtain rfl := Option.some.inj H
     go_enter Tryz.func3, Tryz.ntmps3
     try go_wp2_with (first | ((with_reducible refine gate_dst (N := 1) rfl ?_); refine box_event ?hg (N := 1) ?hd (cs := #[.int .i64 a0_0, .string a0_1]) (t := 23) ?hr ?_; (case hd => rfl); (case hg => rfl); (case hr => first | (go_simp; done) | (go_simp; rfl)); intro gb101 hg w29 hbox hb; have n0_ := Aside0.mk (below_step bw_ hb); have n1_ := Aside0.mk (hbox); have n2_ := Aside0.mk ((by rw [hg]; exact (below_size bw_) : w.heap.size ≤ gb101)); have n3_ := Aside0.mk ((by rw [hg]; exact (below_size bw_) : w.heap.size ≤ gb101)); clear HB; have HB := n0_; have BK101 := n1_; have GW101 := n2_; have GE101 := n3_; clear n0_ n1_ n2_ n3_; clear hb hbox hg) | ((with_reducible refine gate_callee (f := 10) rfl ?_); refine goesL_ (some 4) rfl rfl Tryz.func10 (by kernel_rfl) rfl #[] rfl la_ ?_; (with_reducible refine (Ob.Gv.head.calls  true _ A2.out (HTAB_.out _ (by first | exact Below.refl _ _ | (with_reducible exact Aside0.out (by assumption)) | repeat (first | (with_reducible exact Aside0.out (by assumption)) | apply below_alloc | apply pw_below_drewN | apply below_drew1)))).mono ?_); rintro e w30 ⟨rfl, hb⟩; refine ⟨_, rfl, ?_⟩; have n0_ := Aside0.mk (blk_below (g := gb101) (o := .cells #[.int .i64 a0_0, .string a0_1] 23 (0, 0)) (by (with_reducible repeat (first | refine blk_drewN ?_ _ | refine blk_drew ?_ | refine blk_alloc ?_ _)); exact BK101.out) hb); have n1_ := Aside0.mk (below_step (by repeat (first | (with_reducible first | exact HB.out | apply below_alloc | apply pw_below_drewN | apply below_drew1 | refine below_set ?_ GE101.out) | exact HB.out)) hb); clear BK101; clear HB; have BK101 := n0_; have HB := n1_; clear n0_ n1_; (try clear hb); (try clear hb2); (try clear hk); (try clear hi); have hcz31_0 : w30.cell? ⟨gb101, 0, none⟩ = some (.int .i64 a0_0) := (blk_cell BK101.out 0).trans rfl; have hcz31_1 : w30.cell? ⟨gb101, 1, none⟩ = some (.string a0_1) := (blk_cell BK101.out 1).trans rfl; have hfz31_0 := blk_frozen BK101.out 0; have hfz31_1 := blk_frozen BK101.out 1))
     have n0_ := Aside0.mk (blk_drew BK101.out)
     have n1_ := Aside0.mk (below_drew1 HB.out)
     clear BK101
     clear HB
     have BK101 := n0_
     have HB := n1_
     clear n0_ n1_
     refine start_ (n := 23) (S := fun w' => w'.cell? ⟨gb101, 0, none⟩ = some (.int .i64 a0_0) ∧ w'.cell? ⟨gb101, 1, none⟩ = some (.string a0_1)) (ds := []) (bl_ 23 0) (by kernel_rfl) rfl rfl ⟨(blk_cell BK101.out 0).trans rfl, (blk_cell BK101.out 1).trans rfl⟩ (fun hHeld => ?_); refine with_tabW w04_ObjectTells.tab4 w04_ObjectTells.bits4 (fun HT_ HW_ => ?_)
     generalize w30.drew = w32 at BK101 HB hHeld ⊢
     refine pv_ 0 10 (bl_ 23 1) ?_
     refine pv_ 1 11 (bl_ 23 3) ?_
     refine tk_ 2 12 (bl_ 23 7) hHeld (hv := by rintro w' ⟨s0, s1⟩; go_simp; with_reducible rfl) (h := ?_)
     refine tk_ 4 14 (bl_ 23 23) hHeld (hv := by rintro w' ⟨s0, s1⟩; go_simp; with_reducible rfl) (h := ?_)
     refine one_ (i := 3) (N := some 13) (bl_ 23 31) rfl rfl (one_of HT_.out (by kernel_rfl)) (by decide) (fun K hK => ?_)
     refine goes_ Tryz.func11 (by kernel_rfl) rfl #[.agg #[.int .i64 a0_0, .string a0_1]] (by rfl) rfl rfl la_ ?_
     with_reducible refine (PObRt.object_Right.calls k a0_0 a0_1 t103 _ A8.out (HTAB_.out _ (by first | exact Below.refl _ _ | (with_reducible exact Aside0.out (by assumption)) | repeat (first | (with_reducible exact Aside0.out (by assumption)) | apply below_alloc | apply pw_below_drewN | apply below_drew1)))).mono ?_
     rintro e w33 ⟨rfl, hb⟩
     refine ⟨_, rfl, ?_⟩
     have n0_ := Aside0.mk (blk_below (g := gb101) (o := .cells #[.int .i64 a0_0, .string a0_1] 23 (0, 0)) (by (with_reducible repeat (first | refine blk_drewN ?_ _ | refine blk_drew ?_ | refine blk_alloc ?_ _)); exact BK101.out) hb)
     have n1_ := Aside0.mk (below_step (by repeat (first | (with_reducible first | exact HB.out | apply below_alloc | apply pw_below_drewN | apply below_drew1 | refine below_set ?_ GE101.out) | exact HB.out)) hb)
     clear BK101
     clear HB
     have BK101 := n0_
     have HB := n1_
     clear n0_ n1_
     (try clear hb)
     (try clear hb2)
     (try clear hk)
     (try clear hi)
     refine hK.out _ _ ⟨(blk_cell BK101.out 0).trans rfl, (blk_cell BK101.out 1).trans rfl⟩ (fun hHeld => ?_)
     clear hK K
     refine norm_ (a' := ?_) ?_ ?_
     rotate_left
     ·
      show Act.put _ (some 13) _ = _
      simp only [ps_]
      rfl
     refine one_ (i := 5) (N := some 15) (bl_ 23 63) rfl rfl (one_of HT_.out (by kernel_rfl)) (by decide) (fun K hK => ?_)
     refine goes_ Tryz.func12 (by kernel_rfl) rfl #[.agg #[.int .i64 a0_0, .string a0_1]] (by rfl) rfl rfl la_ ?_
     with_reducible refine (PObDoc.r04_Right.calls k a0_0 a0_1 t104 _ A9.out).mono ?_
     rintro e w34 ⟨rfl, hb⟩
     refine ⟨_, rfl, ?_⟩
     have n0_ := Aside0.mk (blk_below (g := gb101) (o := .cells #[.int .i64 a0_0, .string a0_1] 23 (0, 0)) (by (with_reducible repeat (first | refine blk_drewN ?_ _ | refine blk_drew ?_ | refine blk_alloc ?_ _)); exact BK101.out) hb)
     have n1_ := Aside0.mk (below_step (by repeat (first | (with_reducible first | exact HB.out | apply below_alloc | apply pw_below_drewN | apply below_drew1 | refine below_set ?_ GE101.out) | exact HB.out)) hb)
     clear BK101
     clear HB
     have BK101 := n0_
     have HB := n1_
     clear n0_ n1_
     (try clear hb)
     (try clear hb2)
     (try clear hk)
     (try clear hi)
     refine hK.out _ _ ⟨(blk_cell BK101.out 0).trans rfl, (blk_cell BK101.out 1).trans rfl⟩ (fun hHeld => ?_)
     clear hK K
     refine norm_ (a' := ?_) ?_ ?_
     rotate_left
     ·
      show Act.put _ (some 15) _ = _
      simp only [ps_]
      rfl
     refine pv_ 6 16 (bl_ 23 127) ?_
     refine pv_ 7 17 (bl_ 23 255) ?_
     refine pv_ 8 18 (bl_ 23 511) ?_
     refine tk_ 9 19 (bl_ 23 1023) hHeld (hv := by rintro w' ⟨s0, s1⟩; go_simp; with_reducible rfl) (h := ?_)
     refine tk_ 11 21 (bl_ 23 3071) hHeld (hv := by rintro w' ⟨s0, s1⟩; go_simp; with_reducible rfl) (h := ?_)
     refine one_ (i := 10) (N := some 20) (bl_ 23 4095) rfl rfl (one_of HT_.out (by kernel_rfl)) (by decide) (fun K hK => ?_)
     refine goes_ Tryz.func13 (by kernel_rfl) rfl #[.agg #[.int .i64 a0_0, .string a0_1]] (by rfl) rfl rfl la_ ?_
     with_reducible refine (Ob.Gv.id.calls a0_0 a0_1 t105 _ A11.out (HTAB_.out _ (by first | exact Below.refl _ _ | (with_reducible exact Aside0.out (by assumption)) | repeat (first | (with_reducible exact Aside0.out (by assumption)) | apply below_alloc | apply pw_below_drewN | apply below_drew1)))).mono ?_
     rintro e w35 ⟨rfl, hb⟩
     refine ⟨_, rfl, ?_⟩
     have n0_ := Aside0.mk (blk_below (g := gb101) (o := .cells #[.int .i64 a0_0, .string a0_1] 23 (0, 0)) (by (with_reducible repeat (first | refine blk_drewN ?_ _ | refine blk_drew ?_ | refine blk_alloc ?_ _)); exact BK101.out) hb)
     have n1_ := Aside0.mk (below_step (by repeat (first | (with_reducible first | exact HB.out | apply below_alloc | apply pw_below_drewN | apply below_drew1 | refine below_set ?_ GE101.out) | exact HB.out)) hb)
     clear BK101
     clear HB
     have BK101 := n0_
     have HB := n1_
     clear n0_ n1_
     (try clear hb)
     (try clear hb2)
     (try clear hk)
     (try clear hi)
     refine hK.out _ _ ⟨(blk_cell BK101.out 0).trans rfl, (blk_cell BK101.out 1).trans rfl⟩ (fun hHeld => ?_)
     clear hK K
     refine norm_ (a' := ?_) ?_ ?_
     rotate_left
     ·
      show Act.put _ (some 20) _ = _
      simp only [ps_]
      rfl
     refine one_ (i := 12) (N := some 22) (bl_ 23 8191) rfl rfl (one_of HT_.out (by kernel_rfl)) (by decide) (fun K hK => ?_)
     refine goes_ Tryz.func14 (by kernel_rfl) rfl #[.agg #[.int .i64 a0_0, .string a0_1]] (by rfl) rfl rfl la_ ?_
     with_reducible refine (Ob.Gv.rid.calls a0_0 a0_1 t106 _ A12.out).mono ?_
     rintro e w36 ⟨rfl, hb⟩
     refine ⟨_, rfl, ?_⟩
     have n0_ := Aside0.mk (blk_below (g := gb101) (o := .cells #[.int .i64 a0_0, .string a0_1] 23 (0, 0)) (by (with_reducible repeat (first | refine blk_drewN ?_ _ | refine blk_drew ?_ | refine blk_alloc ?_ _)); exact BK101.out) hb)
     have n1_ := Aside0.mk (below_step (by repeat (first | (with_reducible first | exact HB.out | apply below_alloc | apply pw_below_drewN | apply below_drew1 | refine below_set ?_ GE101.out) | exact HB.out)) hb)
     clear BK101
     clear HB
     have BK101 := n0_
     have HB := n1_
     clear n0_ n1_
     (try clear hb)
     (try clear hb2)
     (try clear hk)
     (try clear hi)
     refine hK.out _ _ ⟨(blk_cell BK101.out 0).trans rfl, (blk_cell BK101.out 1).trans rfl⟩ (fun hHeld => ?_)
     clear hK K
     refine norm_ (a' := ?_) ?_ ?_
     rotate_left
     ·
      show Act.put _ (some 22) _ = _
      simp only [ps_]
      rfl
     refine pv_ 13 23 (bl_ 23 16383) ?_
     refine pv_ 14 24 (bl_ 23 32767) ?_
     refine pv_ 15 25 (bl_ 23 65535) ?_
     refine pu_ 16 26 (bl_ 23 131071) ?_
     refine pu_ 17 27 (bl_ 23 262143) ?_
     refine pu_ 18 28 (bl_ 23 524287) ?_
     refine pu_ 19 29 (bl_ 23 1048575) ?_
     refine pu_ 20 30 (bl_ 23 2097151) ?_
     refine pv_ 21 31 (bl_ 23 4194303) ?_
     refine pv_ 22 2 (bl_ 23 8388607) ?_
     refine done_ (done_of HT_.out (by kernel_rfl)) ?_
     try go_wp2
     go_ret
     exact ⟨er_, by repeat (first | (with_reducible first | exact HB.out | apply below_alloc | apply pw_below_drewN | apply below_drew1 | refine below_set ?_ GE101.out) | exact HB.out)⟩
   ·
    rw [if_neg c10] at H
    have c10b0 : (t103 == t104) = false := by simpa using c10
    (try (have c10b1 : decide (t103 = t104) = false := by simpa using c10))
    (try (have c10b2 : (t103 == t104) = false := by simpa using c10))
    (try (have c10b3 : ¬ (t103 = t104) := by simpa using c10))
    clear c10
    obtain rfl := Option.some.inj H
    go_enter Tryz.func3, Tryz.ntmps3
    try go_wp2_with (first | ((with_reducible refine gate_dst (N := 1) rfl ?_); refine box_event ?hg (N := 1) ?hd (cs := #[.int .i64 a0_0, .string a0_1]) (t := 23) ?hr ?_; (case hd => rfl); (case hg => rfl); (case hr => first | (go_simp; done) | (go_simp; rfl)); intro gb101 hg w37 hbox hb; have n0_ := Aside0.mk (below_step bw_ hb); have n1_ := Aside0.mk (hbox); have n2_ := Aside0.mk ((by rw [hg]; exact (below_size bw_) : w.heap.size ≤ gb101)); have n3_ := Aside0.mk ((by rw [hg]; exact (below_size bw_) : w.heap.size ≤ gb101)); clear HB; have HB := n0_; have BK101 := n1_; have GW101 := n2_; have GE101 := n3_; clear n0_ n1_ n2_ n3_; clear hb hbox hg) | ((with_reducible refine gate_callee (f := 10) rfl ?_); refine goesL_ (some 4) rfl rfl Tryz.func10 (by kernel_rfl) rfl #[] rfl la_ ?_; (with_reducible refine (Ob.Gv.head.calls  true _ A2.out (HTAB_.out _ (by first | exact Below.refl _ _ | (with_reducible exact Aside0.out (by assumption)) | repeat (first | (with_reducible exact Aside0.out (by assumption)) | apply below_alloc | apply pw_below_drewN | apply below_drew1)))).mono ?_); rintro e w38 ⟨rfl, hb⟩; refine ⟨_, rfl, ?_⟩; have n0_ := Aside0.mk (blk_below (g := gb101) (o := .cells #[.int .i64 a0_0, .string a0_1] 23 (0, 0)) (by (with_reducible repeat (first | refine blk_drewN ?_ _ | refine blk_drew ?_ | refine blk_alloc ?_ _)); exact BK101.out) hb); have n1_ := Aside0.mk (below_step (by repeat (first | (with_reducible first | exact HB.out | apply below_alloc | apply pw_below_drewN | apply below_drew1 | refine below_set ?_ GE101.out) | exact HB.out)) hb); clear BK101; clear HB; have BK101 := n0_; have HB := n1_; clear n0_ n1_; (try clear hb); (try clear hb2); (try clear hk); (try clear hi); have hcz39_0 : w38.cell? ⟨gb101, 0, none⟩ = some (.int .i64 a0_0) := (blk_cell BK101.out 0).trans rfl; have hcz39_1 : w38.cell? ⟨gb101, 1, none⟩ = some (.string a0_1) := (blk_cell BK101.out 1).trans rfl; have hfz39_0 := blk_frozen BK101.out 0; have hfz39_1 := blk_frozen BK101.out 1))
    have n0_ := Aside0.mk (blk_drew BK101.out)
    have n1_ := Aside0.mk (below_drew1 HB.out)
    clear BK101
    clear HB
    have BK101 := n0_
    have HB := n1_
    clear n0_ n1_
    refine start_ (n := 23) (S := fun w' => w'.cell? ⟨gb101, 0, none⟩ = some (.int .i64 a0_0) ∧ w'.cell? ⟨gb101, 1, none⟩ = some (.string a0_1)) (ds := []) (bl_ 23 0) (by kernel_rfl) rfl rfl ⟨(blk_cell BK101.out 0).trans rfl, (blk_cell BK101.out 1).trans rfl⟩ (fun hHeld => ?_); refine with_tabW w04_ObjectTells.tab4 w04_ObjectTells.bits4 (fun HT_ HW_ => ?_)
    generalize w38.drew = w40 at BK101 HB hHeld ⊢
    refine pv_ 0 10 (bl_ 23 1) ?_
    refine pv_ 1 11 (bl_ 23 3) ?_
    refine tk_ 2 12 (bl_ 23 7) hHeld (hv := by rintro w' ⟨s0, s1⟩; go_simp; with_reducible rfl) (h := ?_)
    refine tk_ 4 14 (bl_ 23 23) hHeld (hv := by rintro w' ⟨s0, s1⟩; go_simp; with_reducible rfl) (h := ?_)
    refine one_ (i := 3) (N := some 13) (bl_ 23 31) rfl rfl (one_of HT_.out (by kernel_rfl)) (by decide) (fun K hK => ?_)
    refine goes_ Tryz.func11 (by kernel_rfl) rfl #[.agg #[.int .i64 a0_0, .string a0_1]] (by rfl) rfl rfl la_ ?_
    with_reducible refine (PObRt.object_Right.calls k a0_0 a0_1 t103 _ A8.out (HTAB_.out _ (by first | exact Below.refl _ _ | (with_reducible exact Aside0.out (by assumption)) | repeat (first | (with_reducible exact Aside0.out (by assumption)) | apply below_alloc | apply pw_below_drewN | apply below_drew1)))).mono ?_
    rintro e w41 ⟨rfl, hb⟩
    refine ⟨_, rfl, ?_⟩
    have n0_ := Aside0.mk (blk_below (g := gb101) (o := .cells #[.int .i64 a0_0, .string a0_1] 23 (0, 0)) (by (with_reducible repeat (first | refine blk_drewN ?_ _ | refine blk_drew ?_ | refine blk_alloc ?_ _)); exact BK101.out) hb)
    have n1_ := Aside0.mk (below_step (by repeat (first | (with_reducible first | exact HB.out | apply below_alloc | apply pw_below_drewN | apply below_drew1 | refine below_set ?_ GE101.out) | exact HB.out)) hb)
    clear BK101
    clear HB
    have BK101 := n0_
    have HB := n1_
    clear n0_ n1_
    (try clear hb)
    (try clear hb2)
    (try clear hk)
    (try clear hi)
    refine hK.out _ _ ⟨(blk_cell BK101.out 0).trans rfl, (blk_cell BK101.out 1).trans rfl⟩ (fun hHeld => ?_)
    clear hK K
    refine norm_ (a' := ?_) ?_ ?_
    rotate_left
    ·
     show Act.put _ (some 13) _ = _
     simp only [ps_]
     rfl
    refine one_ (i := 5) (N := some 15) (bl_ 23 63) rfl rfl (one_of HT_.out (by kernel_rfl)) (by decide) (fun K hK => ?_)
    refine goes_ Tryz.func12 (by kernel_rfl) rfl #[.agg #[.int .i64 a0_0, .string a0_1]] (by rfl) rfl rfl la_ ?_
    with_reducible refine (PObDoc.r04_Right.calls k a0_0 a0_1 t104 _ A9.out).mono ?_
    rintro e w42 ⟨rfl, hb⟩
    refine ⟨_, rfl, ?_⟩
    have n0_ := Aside0.mk (blk_below (g := gb101) (o := .cells #[.int .i64 a0_0, .string a0_1] 23 (0, 0)) (by (with_reducible repeat (first | refine blk_drewN ?_ _ | refine blk_drew ?_ | refine blk_alloc ?_ _)); exact BK101.out) hb)
    have n1_ := Aside0.mk (below_step (by repeat (first | (with_reducible first | exact HB.out | apply below_alloc | apply pw_below_drewN | apply below_drew1 | refine below_set ?_ GE101.out) | exact HB.out)) hb)
    clear BK101
    clear HB
    have BK101 := n0_
    have HB := n1_
    clear n0_ n1_
    (try clear hb)
    (try clear hb2)
    (try clear hk)
    (try clear hi)
    refine hK.out _ _ ⟨(blk_cell BK101.out 0).trans rfl, (blk_cell BK101.out 1).trans rfl⟩ (fun hHeld => ?_)
    clear hK K
    refine norm_ (a' := ?_) ?_ ?_
    rotate_left
    ·
     show Act.put _ (some 15) _ = _
     simp only [ps_]
     rfl
    refine pv_ 6 16 (bl_ 23 127) ?_
    refine pv_ 7 17 (bl_ 23 255) ?_
    refine pv_ 8 18 (bl_ 23 511) ?_
    refine pu_ 9 19 (bl_ 23 1023) ?_
    refine pu_ 10 20 (bl_ 23 2047) ?_
    refine pu_ 11 21 (bl_ 23 4095) ?_
    refine pu_ 12 22 (bl_ 23 8191) ?_
    refine pu_ 13 23 (bl_ 23 16383) ?_
    refine pv_ 14 24 (bl_ 23 32767) ?_
    refine pv_ 15 25 (bl_ 23 65535) ?_
    refine pu_ 16 26 (bl_ 23 131071) ?_
    refine pu_ 17 27 (bl_ 23 262143) ?_
    refine pu_ 18 28 (bl_ 23 524287) ?_
    refine pu_ 19 29 (bl_ 23 1048575) ?_
    refine pu_ 20 30 (bl_ 23 2097151) ?_
    refine pv_ 21 31 (bl_ 23 4194303) ?_
    refine pv_ 22 2 (bl_ 23 8388607) ?_
    refine done_ (done_of HT_.out (by kernel_rfl)) ?_
    try go_wp2
    go_ret
    exact ⟨er_, by repeat (first | (with_reducible first | exact HB.out | apply below_alloc | apply pw_below_drewN | apply below_drew1 | refine below_set ?_ GE101.out) | exact HB.out)⟩
  ·
   replace c7 := Bool.eq_false_iff.mpr c7
   subst c7
   have H1 : (some false) = some r := by rw [if_neg (show ¬ (false = true) by decide)] at H; exact H
   clear H
   have H := H1
   clear H1
   obtain rfl := Option.some.inj H
   go_enter Tryz.func3, Tryz.ntmps3
   try go_wp2_with (first | ((with_reducible refine gate_dst (N := 1) rfl ?_); refine box_event ?hg (N := 1) ?hd (cs := #[.int .i64 a0_0, .string a0_1]) (t := 23) ?hr ?_; (case hd => rfl); (case hg => rfl); (case hr => first | (go_simp; done) | (go_simp; rfl)); intro gb101 hg w43 hbox hb; have n0_ := Aside0.mk (below_step bw_ hb); have n1_ := Aside0.mk (hbox); have n2_ := Aside0.mk ((by rw [hg]; exact (below_size bw_) : w.heap.size ≤ gb101)); have n3_ := Aside0.mk ((by rw [hg]; exact (below_size bw_) : w.heap.size ≤ gb101)); clear HB; have HB := n0_; have BK101 := n1_; have GW101 := n2_; have GE101 := n3_; clear n0_ n1_ n2_ n3_; clear hb hbox hg) | ((with_reducible refine gate_callee (f := 10) rfl ?_); refine goesL_ (some 4) rfl rfl Tryz.func10 (by kernel_rfl) rfl #[] rfl la_ ?_; (with_reducible refine (Ob.Gv.head.calls  false _ A2.out (HTAB_.out _ (by first | exact Below.refl _ _ | (with_reducible exact Aside0.out (by assumption)) | repeat (first | (with_reducible exact Aside0.out (by assumption)) | apply below_alloc | apply pw_below_drewN | apply below_drew1)))).mono ?_); rintro e w44 ⟨rfl, hb⟩; refine ⟨_, rfl, ?_⟩; have n0_ := Aside0.mk (blk_below (g := gb101) (o := .cells #[.int .i64 a0_0, .string a0_1] 23 (0, 0)) (by (with_reducible repeat (first | refine blk_drewN ?_ _ | refine blk_drew ?_ | refine blk_alloc ?_ _)); exact BK101.out) hb); have n1_ := Aside0.mk (below_step (by repeat (first | (with_reducible first | exact HB.out | apply below_alloc | apply pw_below_drewN | apply below_drew1 | refine below_set ?_ GE101.out) | exact HB.out)) hb); clear BK101; clear HB; have BK101 := n0_; have HB := n1_; clear n0_ n1_; (try clear hb); (try clear hb2); (try clear hk); (try clear hi); have hcz45_0 : w44.cell? ⟨gb101, 0, none⟩ = some (.int .i64 a0_0) := (blk_cell BK101.out 0).trans rfl; have hcz45_1 : w44.cell? ⟨gb101, 1, none⟩ = some (.string a0_1) := (blk_cell BK101.out 1).trans rfl; have hfz45_0 := blk_frozen BK101.out 0; have hfz45_1 := blk_frozen BK101.out 1))
   have n0_ := Aside0.mk (blk_drew BK101.out)
   have n1_ := Aside0.mk (below_drew1 HB.out)
   clear BK101
   clear HB
   have BK101 := n0_
   have HB := n1_
   clear n0_ n1_
   refine start_ (n := 23) (S := fun w' => True) (ds := []) (bl_ 23 0) (by kernel_rfl) rfl rfl trivial (fun hHeld => ?_); refine with_tabW w04_ObjectTells.tab4 w04_ObjectTells.bits4 (fun HT_ HW_ => ?_)
   generalize w44.drew = w46 at BK101 HB hHeld ⊢
   refine pv_ 0 10 (bl_ 23 1) ?_
   refine pv_ 1 11 (bl_ 23 3) ?_
   refine pu_ 2 12 (bl_ 23 7) ?_
   refine pu_ 3 13 (bl_ 23 15) ?_
   refine pu_ 4 14 (bl_ 23 31) ?_
   refine pu_ 5 15 (bl_ 23 63) ?_
   refine pu_ 6 16 (bl_ 23 127) ?_
   refine pv_ 7 17 (bl_ 23 255) ?_
   refine pv_ 8 18 (bl_ 23 511) ?_
   refine pu_ 9 19 (bl_ 23 1023) ?_
   refine pu_ 10 20 (bl_ 23 2047) ?_
   refine pu_ 11 21 (bl_ 23 4095) ?_
   refine pu_ 12 22 (bl_ 23 8191) ?_
   refine pu_ 13 23 (bl_ 23 16383) ?_
   refine pv_ 14 24 (bl_ 23 32767) ?_
   refine pv_ 15 25 (bl_ 23 65535) ?_
   refine pu_ 16 26 (bl_ 23 131071) ?_
   refine pu_ 17 27 (bl_ 23 262143) ?_
   refine pu_ 18 28 (bl_ 23 524287) ?_
   refine pu_ 19 29 (bl_ 23 1048575) ?_
   refine pu_ 20 30 (bl_ 23 2097151) ?_
   refine pv_ 21 31 (bl_ 23 4194303) ?_
   refine pv_ 22 2 (bl_ 23 8388607) ?_
   refine done_ (done_of HT_.out (by kernel_rfl)) ?_
   try go_wp2
   go_ret
   exact ⟨er_, by repeat (first | (with_reducible first | exact HB.out | apply below_alloc | apply pw_below_drewN | apply below_drew1 | refine below_set ?_ GE101.out) | exact HB.out)⟩
end Go.Proofs.YtefefhhaopjccaaGreatDoor.PObjectTells

namespace Go.Proofs.YtefefhhaopjccaaGreatDoor.Ob
set_option linter.unusedVariables false
set_option linter.unusedSimpArgs false
open Go Go.RowKit Go.Proofs.YtefefhhaopjccaaGreatDoorW.PrintWords Go.Proofs.YtefefhhaopjccaaGreatDoorW.PrintLast Go.Proofs.YtefefhhaopjccaaGreatDoorW.PrintMore PObBase PObDoc PObGet PObRt PObjectTells
theorem rwants_l0 (l : List It) (hok : ∀ x ∈ l, 1 ≤ x.f0 ∧ x.f0 ≤ 3) (hl : l.length ≤ 100000) : ∀ (d i : Nat) (acc : List Wnt), l.length - i = d → i ≤ l.length → acc.length = i → Ev (fun k => r04_Wants.l0 k acc l (i : Int)) (acc ++ (l.drop i).map wantI) := by
  intro d
  induction d with
  | zero =>
    intro i acc hd hi ha
    rw [List.drop_of_length_le (by omega), List.map_nil, List.append_nil]
    refine Ev.step (f := fun _ => some acc) (fun k => ?_) (Ev.now _)
    simp only [r04_Wants.l0]
    rw [if_neg (by omega)]
  | succ d ih =>
    intro i acc hd hi ha
    have hil : i < l.length := by omega
    obtain ⟨x, hx⟩ : ∃ x, l[i]? = some x := ⟨_, List.getElem?_eq_getElem hil⟩
    have hw := wr1 hil (by omega)
    obtain ⟨h1, h3⟩ := hok x (List.mem_of_getElem? hx)
    rw [drop_at hx, List.map_cons, ← List.singleton_append, ← List.append_assoc]
    refine Ev.step (fun k => ?_) (ih (i + 1) (acc ++ [wantI x]) (by omega) (by omega) (by rw [List.length_append, ha]; rfl))
    simp only [r04_Wants.l0]
    rw [if_pos (by omega), if_pos (by omega), rdI hx, hw]
    by_cases h : x.f0 = 3
    · have e : wantI x = ⟨x.f2, 2⟩ := by unfold wantI kindI; rw [if_pos h]
      rw [if_pos h, if_pos (by omega), e]
    · have e : wantI x = ⟨x.f2, 1⟩ := by unfold wantI kindI; rw [if_neg h, if_pos (by omega)]
      rw [if_neg h, if_pos (by omega), e]
theorem rwants_l1 (c : Chg) (hl : c.f1.length ≤ 100000) : ∀ (d i : Nat) (acc : List Wnt), c.f1.length - i = d → i ≤ c.f1.length → acc.length = i + 1 → Ev (fun k => r04_Wants.l1 k acc (i : Int) c.f0 c.f1 c.f2 c.f3) (acc ++ (c.f1.drop i).map (fun s => (⟨s, 3⟩ : Wnt))) := by
  intro d
  induction d with
  | zero =>
    intro i acc hd hi ha
    rw [List.drop_of_length_le (by omega), List.map_nil, List.append_nil]
    refine Ev.step (f := fun _ => some acc) (fun k => ?_) (Ev.now _)
    simp only [r04_Wants.l1]
    rw [if_neg (by omega)]
  | succ d ih =>
    intro i acc hd hi ha
    have hil : i < c.f1.length := by omega
    obtain ⟨x, hx⟩ : ∃ x, c.f1[i]? = some x := ⟨_, List.getElem?_eq_getElem hil⟩
    have hw := wr1 hil (by omega)
    rw [drop_at hx, List.map_cons, ← List.singleton_append, ← List.append_assoc]
    refine Ev.step (fun k => ?_) (ih (i + 1) (acc ++ [(⟨x, 3⟩ : Wnt)]) (by omega) (by omega) (by rw [List.length_append, ha]; rfl))
    simp only [r04_Wants.l1]
    rw [if_pos (by omega), if_pos (by omega), rdS hx, hw, if_pos (by omega)]
theorem rwants_ev (k : Int) (d : ByteArray) (hd : d.size ≤ 400000000) : Ev (fun n => r04_Wants.f n k d) (wantsL k d) := by
  unfold r04_Wants.f
  refine Ev.bind (rright_ev k d hd) ?_
  cases h : rightB k d with
  | false =>
    rw [wants_no h]
    exact Ev.congr (fun n => if_neg (by simp)) (Ev.now _)
  | true =>
    refine Ev.congr (fun n => if_pos rfl) ?_
    rcases kind_cases h with rfl | rfl | rfl | rfl
    · rw [wants_1]
      exact Ev.congr (fun n => (if_neg (by decide)).trans ((if_neg (by decide)).trans (if_neg (by decide)))) (Ev.now _)
    · obtain ⟨l, hl, ht, _⟩ := tree_of h
      have hg := rgetT_ev d (by omega)
      rw [hl] at hg
      rw [wants_2 h hl]
      refine Ev.congr (fun n => if_pos rfl) (Ev.bind hg ?_)
      exact rwants_l0 l (fun x hx => ⟨(tree_items ht x hx).1, (tree_items ht x hx).2.1⟩) (by have := (treeB_parts ht).2; omega) l.length 0 [] (by omega) (by omega) rfl
    · obtain ⟨c, hc, ht, _⟩ := change_of h
      have hg := rgetC_ev d hd
      rw [hc] at hg
      rw [wants_3 h hc]
      refine Ev.congr (fun n => (if_neg (by decide)).trans (if_pos rfl)) (Ev.bind hg ?_)
      refine Ev.congr (fun n => if_pos (by show 0 < 5864062014805; decide)) ?_
      exact rwants_l1 c (by have := (change_parts ht).2.2.1; omega) c.f1.length 0 [⟨c.f0, 2⟩] (by omega) (by omega) rfl
    · obtain ⟨c, hc, ht, _⟩ := label_of h
      have hg := rgetL_ev d hd
      rw [hc] at hg
      rw [wants_4 h hc]
      refine Ev.congr (fun n => (if_neg (by decide)).trans ((if_neg (by decide)).trans (if_pos rfl))) (Ev.bind hg ?_)
      exact Ev.congr (fun n => if_pos (by show 0 < 5864062014805; decide)) (Ev.now _)
theorem sameW_refl (a : List Wnt) (hl : a.length ≤ 100000) : Ev (fun k => r04_SameWants.f k a a) true := by
  have h0 : ∀ (d i : Nat), a.length - i = d → i ≤ a.length → Ev (fun k => r04_SameWants.l0 k a a (i : Int)) true := by
    intro d
    induction d with
    | zero =>
      intro i hd hi
      refine Ev.step (f := fun _ => some true) (fun k => ?_) (Ev.now _)
      simp only [r04_SameWants.l0]
      rw [if_neg (by omega)]
    | succ d ih =>
      intro i hd hi
      have hil : i < a.length := by omega
      obtain ⟨x, hx⟩ : ∃ x, a[i]? = some x := ⟨_, List.getElem?_eq_getElem hil⟩
      have hw := wr1 hil (by omega)
      refine Ev.step (fun k => ?_) (ih (i + 1) (by omega) (by omega))
      simp only [r04_SameWants.l0]
      rw [if_pos (by omega), if_pos (by omega), if_pos (by omega), rdW hx, hw, if_neg (by simp)]
  unfold r04_SameWants.f
  exact Ev.congr (fun k => if_pos rfl) (h0 a.length 0 (by omega) (by omega))
theorem tells_ev (k : Int) (d : ByteArray) : Ev (fun n => w04_ObjectTells.f n k d) true := by
  unfold w04_ObjectTells.f
  by_cases h : d.size ≤ 70000
  · have hd : d.size ≤ 400000000 := by omega
    refine Ev.congr (f := fun n => (object_Right.f n k d).bind fun t103 => ((r04_Right.f n k d).bind fun t104 => (if (t103 == t104) = true then ((Gv.id.f k d).bind fun t105 => ((Gv.rid.f k d).bind fun t106 => (if t105.toList = t106.toList then ((Gv.wants.f k d).bind fun t107 => ((r04_Wants.f n k d).bind fun t110 => ((r04_SameWants.f n t107 t110).bind fun t113 => (some t113)))) else (some false)))) else (some false)))) (fun n => ?_) ?_
    · show (if (d.size : Int) > 70000 then _ else _) = _
      rw [if_neg (by omega)]; rfl
    · refine Ev.bind (right_ev k d hd) (Ev.bind (rright_ev k d hd) ?_)
      refine Ev.congr (f := fun n => (r04_Wants.f n k d).bind fun t110 => ((r04_SameWants.f n (wantsL k d) t110).bind fun t113 => (some t113))) (fun n => ?_) ?_
      · rw [if_pos (by simp), Gv.id.f_eq hd, Gv.rid.f_eq hd, Gv.wants.f_eq hd]
        show (if (idS k d).toList = (idS k d).toList then _ else _) = _
        rw [if_pos rfl]; rfl
      · exact Ev.bind (rwants_ev k d hd) (Ev.bind (sameW_refl _ (by have := wants_len k d; omega)) (Ev.now _))
  · refine Ev.congr (f := fun _ => some true) (fun n => ?_) (Ev.now _)
    show (if (d.size : Int) > 70000 then _ else _) = _
    rw [if_pos (by omega)]
end Go.Proofs.YtefefhhaopjccaaGreatDoor.Ob
