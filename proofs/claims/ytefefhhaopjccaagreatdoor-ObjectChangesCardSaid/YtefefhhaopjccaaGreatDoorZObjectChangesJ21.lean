/- Joined texts: ObHead, ObBackP, ObChangesLaw. No condition but what stands in each. -/
import Derived.Test.YtefefhhaopjccaaGreatDoorZObjectChangesJ20
import Derived.Lib.SlBytesConst
import Derived.Test.YtefefhhaopjccaaGreatDoorZObjectChangesJ15
import Derived.Test.YtefefhhaopjccaaGreatDoorZObjectChangesJ10
import Derived.Test.YtefefhhaopjccaaGreatDoorZObjectChangesJ13
namespace Go.Proofs.YtefefhhaopjccaaGreatDoor.Ob
set_option linter.unusedVariables false
set_option linter.unusedSimpArgs false
set_option maxRecDepth 100000
open Go Go.RowKit Go.Proofs.YtefefhhaopjccaaGreatDoorW.PrintWords Go.Proofs.YtefefhhaopjccaaGreatDoorW.PrintLast Go.Proofs.YtefefhhaopjccaaGreatDoorW.PrintMore PObBase
theorem new_C {α : Type} (d : Kd α) (e : TypeId) (W : World) {xs : List α} {inner : List Value} (hr : Reps (d.K (W.alloc (.cells inner.toArray e))) d.sz xs inner) (hm : xs.length ≤ 9223372036854775807) : d.C (W.alloc (.cells inner.toArray e)) (some ⟨W.heap.size, 0, none⟩) xs.length xs := by
  obtain ⟨A, c, hv, _, h⟩ := (OwnRow.lit W W.heap.size hr (Nat.le_refl _) hm : OwnRow (d.K (W.alloc (.cells inner.toArray e))) e d.sz _ _ _ _).reads
  injection hv with h1 h2 h3
  rw [h1]; exact h
theorem name0_walk (w : World) : Calls Tryz.prog 35 #[.slice (some ⟨w.heap.size, 0, none⟩) 7 7] (w.alloc (.cells #[.int .u8 98, .int .u8 108, .int .u8 111, .int .u8 98, .int .u8 32, .int .u8 48, .int .u8 10] 5 (7, 8))) fun e w' => e = .returned (.string (nameS blob0)) ∧ Below w.heap.size w w' := by
  have hC : (Kd.int .u8).C (w.alloc (.cells #[.int .u8 98, .int .u8 108, .int .u8 111, .int .u8 98, .int .u8 32, .int .u8 48, .int .u8 10] 5 (7, 8))) (some ⟨w.heap.size, 0, none⟩) 7 [98, 108, 111, 98, 32, 48, 10] := by
    refine Kd.C_of_reads (enc := Value.int .u8) (d := (0 : Int)) ⟨rfl, by decide, fun _ => ⟨_, rfl, fun j hj => ?_⟩⟩
    have hb : (w.alloc (.cells #[.int .u8 98, .int .u8 108, .int .u8 111, .int .u8 98, .int .u8 32, .int .u8 48, .int .u8 10] 5 (7, 8))).heap[w.heap.size]? = some (.cells #[.int .u8 98, .int .u8 108, .int .u8 111, .int .u8 98, .int .u8 32, .int .u8 48, .int .u8 10] 5 (7, 8)) := by
      show (w.heap.push _)[w.heap.size]? = _
      simp
    rw [add_at, Nat.zero_add]
    unfold World.cell?
    rw [hb]
    rcases (show j = 0 ∨ j = 1 ∨ j = 2 ∨ j = 3 ∨ j = 4 ∨ j = 5 ∨ j = 6 by omega) with rfl | rfl | rfl | rfl | rfl | rfl | rfl <;> rfl
  refine (Dg.rname_calls _ 7 [98, 108, 111, 98, 32, 48, 10] _ hC (Nat.le_refl _) (by decide) (by decide)).mono ?_
  rintro e w' ⟨rfl, hb⟩
  have h1 : Below w.heap.size w (w.alloc (.cells #[.int .u8 98, .int .u8 108, .int .u8 111, .int .u8 98, .int .u8 32, .int .u8 48, .int .u8 10] 5 (7, 8))) := (Below.refl _ _).alloc (Nat.le_refl _) _
  exact ⟨rfl, h1.trans (hb.mono h1.size)⟩
theorem two_items (x y : It) (hx : x.f2.size ≤ 100 ∧ x.f1.size ≤ 100) (hy : y.f2.size ≤ 100 ∧ y.f1.size ≤ 100) (W : World) (ht : Tbl W) : Calls Tryz.prog 19 #[.slice (some ⟨W.heap.size, 0, none⟩) 2 2] (W.alloc (.cells #[.int .i64 x.f0, .string x.f1, .string x.f2, .int .i64 y.f0, .string y.f1, .string y.f2] 54)) fun e w' => e = .returned (.tuple #[.string (putTree [x, y]).1, .bool (putTree [x, y]).2]) ∧ Below W.heap.size W w' := by
  have hb : Below W.heap.size W (W.alloc (.cells #[.int .i64 x.f0, .string x.f1, .string x.f2, .int .i64 y.f0, .string y.f1, .string y.f2] 54)) := (Below.refl _ _).alloc (Nat.le_refl _) _
  have hC := new_C k54 54 W (xs := [x, y]) (((Reps.none _ _).snoc (k54_mk _ x) rfl).snoc (k54_mk _ y) rfl) (by simp)
  refine (putTree_walk _ 2 2 [x, y] _ hC rfl (Nat.le_refl _) (fun z hz => ?_) (by decide) (ht.below hb)).mono ?_
  · rcases List.mem_cons.1 hz with rfl | hz
    · exact ⟨by omega, by omega⟩
    · obtain rfl := List.mem_singleton.1 hz; exact ⟨by omega, by omega⟩
  · rintro e w' ⟨rfl, hb'⟩
    exact ⟨rfl, hb.trans (hb'.mono hb.size)⟩
set_option maxHeartbeats 64000000 in
theorem head_walk (w : World) (ht : Tbl w) : Calls Tryz.prog 10 #[] w fun e w' => e = .returned (.bool true) ∧ Below w.heap.size w w' := by
  have HTB : As (∀ w', Below w.heap.size w w' → Tbl w') := ⟨fun w' hb => ht.below hb⟩
  have hI := id_walk 1 ⟨#[]⟩ (by decide) w ht
  rw [id_0] at hI
  have hN := name0_walk
  have hnm := nm_nameS blob0
  obtain ⟨a, ha_⟩ : ∃ a, nameS blob0 = a := ⟨_, rfl⟩
  rw [ha_] at hnm hI hN
  have hz := nm_size hnm
  have HI := As.mk hI
  have HN := As.mk hN
  have P1 := As.mk (hd1 hnm)
  obtain ⟨o2, h2⟩ := hd2 hnm
  obtain ⟨o3, h3, hs3⟩ := hd3 hnm
  obtain ⟨o4, h4, hs4⟩ := hd4 hnm
  have P2 := As.mk h2
  have P3 := As.mk h3
  have P3w := As.mk (wants_change h3 hs3)
  have P4 := As.mk h4
  have P4r := As.mk (right_label h4 hs4)
  have S3 := As.mk hs3
  have S4 := As.mk hs4
  have HZ := As.mk hz
  have HT1 := As.mk (fun W ht => two_items ⟨3, na, a⟩ ⟨1, nac, a⟩ ⟨by show a.size ≤ _; omega, by show na.size ≤ _; decide⟩ ⟨by show a.size ≤ _; omega, by show nac.size ≤ _; decide⟩ W ht)
  have HT2 := As.mk (fun W ht => two_items ⟨1, nac, a⟩ ⟨3, na, a⟩ ⟨by show a.size ≤ _; omega, by show nac.size ≤ _; decide⟩ ⟨by show a.size ≤ _; omega, by show na.size ≤ _; decide⟩ W ht)
  clear hI hN hnm ha_ h2 h3 h4 hs3 hs4 hz ht
  go_enter Tryz.func10, Tryz.ntmps10
  go_wp2_with (fail)
  refine HI.out.mono ?_
  rintro e w1 ⟨rfl, hb⟩
  have HB1 := As.mk hb
  clear hb
  go_wp2_with (fail)
  refine (HT1.out w1 (HTB.out _ HB1.out)).mono ?_
  rintro e w2 ⟨rfl, hb⟩
  rw [P1.out]
  have HB2 := As.mk (HB1.out.trans (hb.mono HB1.out.size))
  clear hb
  go_wp2_with (fail)
  refine (HT2.out w2 (HTB.out _ HB2.out)).mono ?_
  rintro e w3 ⟨rfl, hb⟩
  rw [P2.out]
  have HB3 := As.mk (HB2.out.trans (hb.mono HB2.out.size))
  clear hb
  go_wp2_with (fail)
  refine (putChange_walk none 0 0 ⟨a, [], nw, nt⟩ ⟨by show a.size ≤ _; have := HZ.out; omega, Nat.zero_le _, (fun p hp => nomatch hp), by show nw.size ≤ _; decide, by show nt.size ≤ _; decide⟩ w3 (Kd.C_nil _ _) rfl (Nat.le_refl _)).mono ?_
  rintro e w4 ⟨rfl, hb⟩
  rw [P3.out]
  have HB4 := As.mk (HB3.out.trans (hb.mono HB3.out.size))
  clear hb
  go_wp2_with (fail)
  refine (wants_walk 3 o3 (by have := S3.out; omega) w4 (HTB.out _ HB4.out)).mono ?_
  rintro e w5 ⟨v, rfl, hR, hb⟩
  rw [P3w.out] at hR
  obtain ⟨A5, c5, rfl, _, hC5⟩ := Kd.R_reads hR
  have HC5 := As.mk hC5
  have HB5 := As.mk (HB4.out.trans (hb.mono HB4.out.size))
  clear hb hR hC5
  go_wp2_with (fail)
  refine (putLabel_walk ⟨a, 1, nn, ⟨#[]⟩⟩ (by show a.size ≤ _; have := HZ.out; omega) (by show nn.size ≤ _; decide) (Nat.zero_le _) w5).mono ?_
  rintro e w6 ⟨rfl, hb⟩
  rw [P4.out]
  have HC6 := As.mk (Kd.C_below HC5.out hb)
  have HB6 := As.mk (HB5.out.trans (hb.mono HB5.out.size))
  clear hb
  have hcv := Lib.run_convert_bytes_const (P := Tryz.prog) w6 62 5 #[.int .u8 98, .int .u8 108, .int .u8 111, .int .u8 98, .int .u8 32, .int .u8 48, .int .u8 10] 7 7 Tryz.underlying62 Tryz.underlying5
  go_wp2_with (fail)
  refine (HN.out _).mono ?_
  rintro e w7 ⟨rfl, hb⟩
  have HC7 := As.mk (Kd.C_below HC6.out hb)
  have HB7 := As.mk (HB6.out.trans (hb.mono HB6.out.size))
  clear hb hcv
  obtain ⟨ad, had, _, hk⟩ := at_T58 HC7.out 0 (by omega) (by show (0 : Int) < 1; decide)
  subst had
  have hk1 : w7.cell? (ad.add 1) = some (.int .i64 2) := hk
  have hk2 : w7.cell? ⟨ad.block, ad.off + 1, none⟩ = some (.int .i64 2) := by rw [← hk1]; rfl
  clear hk
  have R1 := right_walk 4 o4 (by have := S4.out; omega) w7 (HTB.out _ HB7.out)
  rw [P4r.out] at R1
  go_wp2_with (fail)
  refine R1.mono ?_
  rintro e w8 ⟨rfl, hb⟩
  have HB8 := As.mk (HB7.out.trans (hb.mono HB7.out.size))
  clear hb R1 hk1 hk2
  have R2 := right_walk 4 ⟨#[]⟩ (by decide) w8 (HTB.out _ HB8.out)
  rw [right_4e] at R2
  go_wp2_with (fail)
  refine R2.mono ?_
  rintro e w9 ⟨rfl, hb⟩
  have HB9 := As.mk (HB8.out.trans (hb.mono HB8.out.size))
  clear hb R2
  have R3 := right_walk 2 ⟨#[]⟩ (by decide) w9 (HTB.out _ HB9.out)
  rw [right_2e] at R3
  go_wp2_with (fail)
  refine R3.mono ?_
  rintro e w10 ⟨rfl, hb⟩
  have HB10 := As.mk (HB9.out.trans (hb.mono HB9.out.size))
  clear hb R3
  go_wp2_with (fail)
  go_ret
  exact ⟨rfl, HB10.out⟩
namespace Gv
end Gv
end Go.Proofs.YtefefhhaopjccaaGreatDoor.Ob

namespace Go.Proofs.YtefefhhaopjccaaGreatDoor.Ob
set_option linter.unusedVariables false
set_option linter.unusedSimpArgs false
open Go Go.RowKit Go.Proofs.YtefefhhaopjccaaGreatDoorW.PrintWords Go.Proofs.YtefefhhaopjccaaGreatDoorW.PrintLast Go.Proofs.YtefefhhaopjccaaGreatDoorW.PrintMore PObBase PObDoc PObGet PObRt
theorem finC_sh (s : ByteArray) (hs : s.size ≤ 400000000) : Csh (getChange s).1 := by
  rcases getChange_else s with ⟨c, hc⟩ | h
  · have := parseC_sh (s := s) (by omega)
    have e : c = parseC s := by
      have h1 := hc
      rw [getChange_fin] at h1
      unfold finC at h1
      split at h1
      · exact (Prod.mk.inj h1).1.symm
      · cases (Prod.mk.inj h1).2
    rw [hc, e]; exact this
  · rw [h]
    exact ⟨Nat.zero_le _, Nat.zero_le _, (fun p hp => nomatch hp), Nat.zero_le _, Nat.zero_le _⟩
end Go.Proofs.YtefefhhaopjccaaGreatDoor.Ob

namespace Go.Proofs.YtefefhhaopjccaaGreatDoor.Ob
set_option linter.unusedVariables false
set_option linter.unusedSimpArgs false
open Go Go.RowKit Go.Proofs.YtefefhhaopjccaaGreatDoorW.PrintWords Go.Proofs.YtefefhhaopjccaaGreatDoorW.PrintLast Go.Proofs.YtefefhhaopjccaaGreatDoorW.PrintMore PObBase PObDoc PObGet PObRt
theorem greatC_walk (c : Chg) (A : Option Addr) (cap : Nat) (hl : c.f1.length ≤ 1000000000000000) : ∃ b, (b = false → Zc c) ∧ ∀ w : World, Kd.C Kd.string w A c.f1.length c.f1 → c.f1.length ≤ cap → Calls Tryz.prog 24 #[.agg #[.string c.f0, .slice A c.f1.length cap, .string c.f2, .string c.f3]] w fun e w' => e = .returned (.bool b) ∧ Below w.heap.size w w' := by
  obtain ⟨b, hb, hz⟩ := greatC_ev c hl
  obtain ⟨k, hk⟩ := hb.rounds
  exact ⟨b, hz, fun w hC hc => w04_GreatChange.calls k c.f0 A cap c.f1 c.f2 c.f3 b w hC hc hk⟩
theorem rputC_walk (c : Chg) (hz : Csh c) (A : Option Addr) (cap : Nat) (w : World) (hC : Kd.C Kd.string w A c.f1.length c.f1) (hc : c.f1.length ≤ cap) : Calls Tryz.prog 26 #[.agg #[.string c.f0, .slice A c.f1.length cap, .string c.f2, .string c.f3]] w fun e w' => e = .returned (.tuple #[.string (putChange c).1, .bool (putChange c).2]) ∧ Below w.heap.size w w' := by
  obtain ⟨k, hk⟩ := (rputC_ev c hz).rounds
  exact r04_PutChange.calls k c.f0 A cap c.f1 c.f2 c.f3 _ _ w hC hc hk
theorem rputL_walk (x : Lab) (h2 : x.f2.size ≤ 1000000000) (h3 : x.f3.size ≤ 1000000000) (w : World) : Calls Tryz.prog 28 #[.agg #[.string x.f0, .int .i64 x.f1, .string x.f2, .string x.f3]] w fun e w' => e = .returned (.tuple #[.string (putLabel x).1, .bool (putLabel x).2]) ∧ Below w.heap.size w w' := by
  obtain ⟨k, hk⟩ := (rputL_ev x h2 h3).rounds
  exact r04_PutLabel.calls k x.f0 x.f1 x.f2 x.f3 _ _ w hk
theorem rgetC_walk (s : ByteArray) (hs : s.size ≤ 400000000) (w : World) : Calls Tryz.prog 30 #[.string s] w fun e w' => ∃ v1, e = .returned (.tuple #[.agg #[.string (getChange s).1.f0, v1, .string (getChange s).1.f2, .string (getChange s).1.f3], .bool (getChange s).2]) ∧ Kd.R Kd.string 9 w' w.heap.size (fun _ => True) v1 (getChange s).1.f1 ∧ Below w.heap.size w w' := by
  obtain ⟨k, hk⟩ := (rgetC_ev s hs).rounds
  exact r04_GetChange.calls k s _ _ _ _ _ w hk
theorem rgetL_walk (s : ByteArray) (hs : s.size ≤ 400000000) (w : World) : Calls Tryz.prog 32 #[.string s] w fun e w' => e = .returned (.tuple #[.agg #[.string (getLabel s).1.f0, .int .i64 (getLabel s).1.f1, .string (getLabel s).1.f2, .string (getLabel s).1.f3], .bool (getLabel s).2]) ∧ Below w.heap.size w w' := by
  obtain ⟨k, hk⟩ := (rgetL_ev s hs).rounds
  exact r04_GetLabel.calls k s _ _ _ _ _ w hk
theorem sameC_walk (c : Chg) (hl : c.f1.length ≤ 1000000000) (A B : Option Addr) (ca cb : Nat) (w : World) (hA : Kd.C Kd.string w A c.f1.length c.f1) (hca : c.f1.length ≤ ca) (hB : Kd.C Kd.string w B c.f1.length c.f1) (hcb : c.f1.length ≤ cb) : Calls Tryz.prog 33 #[.agg #[.string c.f0, .slice A c.f1.length ca, .string c.f2, .string c.f3], .agg #[.string c.f0, .slice B c.f1.length cb, .string c.f2, .string c.f3]] w fun e w' => e = .returned (.bool true) ∧ Below w.heap.size w w' := by
  obtain ⟨k, hk⟩ := (sameC_refl c hl).rounds
  exact r04_SameChange.calls k c.f0 A ca c.f1 c.f2 c.f3 c.f0 B cb c.f1 c.f2 c.f3 true w hA hca hB hcb hk
set_option maxHeartbeats 32000000 in
set_option maxRecDepth 100000 in
theorem changes_walk (c : Chg) (A : Option Addr) (cap : Nat) (x : Lab) (s : ByteArray) (w : World) (hC : Kd.C Kd.string w A c.f1.length c.f1) (hc : c.f1.length ≤ cap) (hcl : c.f1.length ≤ 1000000000000000) (hx : x.f0.size ≤ 140737488355328 ∧ x.f2.size ≤ 140737488355328 ∧ x.f3.size ≤ 140737488355328) (ht : Tbl w) :
    Calls Tryz.prog 5 #[.agg #[.string c.f0, .slice A c.f1.length cap, .string c.f2, .string c.f3], .agg #[.string x.f0, .int .i64 x.f1, .string x.f2, .string x.f3], .string s] w fun e w' => e = .returned (.bool true) ∧ Below w.heap.size w w' := by
  obtain ⟨n, hn⟩ : ∃ n, c.f1.length = n := ⟨_, rfl⟩
  obtain ⟨b, hz, hgr⟩ := greatC_walk c A cap hcl
  rw [hn] at hC hc hgr ⊢
  obtain ⟨wa, hwa⟩ : ∃ wa, w.alloc (.cells #[.string c.f0, .slice A n cap, .string c.f2, .string c.f3] 40) = wa := ⟨_, rfl⟩
  have hsa : wa.heap.size = w.heap.size + 1 := by rw [← hwa, World.size_alloc]
  have hba : Below w.heap.size w wa := by rw [← hwa]; exact (Below.refl _ _).alloc (Nat.le_refl _) _
  have hka : wa.heap[w.heap.size]? = some (.cells #[.string c.f0, .slice A n cap, .string c.f2, .string c.f3] 40 (0, 0)) := by rw [← hwa]; exact blk_new w _
  obtain ⟨w0, hw0⟩ : ∃ w0, wa.alloc (.cells #[.string x.f0, .int .i64 x.f1, .string x.f2, .string x.f3] 42) = w0 := ⟨_, rfl⟩
  have hb0 : Below w.heap.size w w0 := by rw [← hw0]; exact hba.alloc hba.size _
  have hk0 : w0.heap[w.heap.size]? = some (.cells #[.string c.f0, .slice A n cap, .string c.f2, .string c.f3] 40 (0, 0)) := by rw [← hw0]; exact (((Below.refl wa.heap.size wa).alloc (Nat.le_refl _) _).block _ (by omega)).trans hka
  have hk1 : w0.heap[w.heap.size + 1]? = some (.cells #[.string x.f0, .int .i64 x.f1, .string x.f2, .string x.f3] 42 (0, 0)) := by rw [← hw0, ← hsa]; exact blk_new wa _
  have HD : As (∀ W : World, Below w0.heap.size w0 W → (W.cell? ⟨w.heap.size, 0, none⟩ = some (.string c.f0) ∧ W.cell? ⟨w.heap.size, 1, none⟩ = some (.slice A n cap) ∧ W.cell? ⟨w.heap.size, 2, none⟩ = some (.string c.f2) ∧ W.cell? ⟨w.heap.size, 3, none⟩ = some (.string c.f3)) ∧ (W.cell? ⟨w.heap.size + 1, 0, none⟩ = some (.string x.f0) ∧ W.cell? ⟨w.heap.size + 1, 1, none⟩ = some (.int .i64 x.f1) ∧ W.cell? ⟨w.heap.size + 1, 2, none⟩ = some (.string x.f2) ∧ W.cell? ⟨w.heap.size + 1, 3, none⟩ = some (.string x.f3))) := ⟨fun W h => by
    have h0 := (h.block _ (blk_lt hk0)).trans hk0
    have h1 := (h.block _ (blk_lt hk1)).trans hk1
    exact ⟨⟨(blk_cell h0 0).trans rfl, (blk_cell h0 1).trans rfl, (blk_cell h0 2).trans rfl, (blk_cell h0 3).trans rfl⟩, (blk_cell h1 0).trans rfl, (blk_cell h1 1).trans rfl, (blk_cell h1 2).trans rfl, (blk_cell h1 3).trans rfl⟩⟩
  have HB0 := As.mk hb0
  have HTB : As (∀ W, Below w.heap.size w W → Tbl W) := ⟨fun W hb => ht.below hb⟩
  have HCC : As (∀ W, Below w.heap.size w W → Kd.C Kd.string W A n c.f1) := ⟨fun W hb => Kd.C_below hC hb⟩
  have HGR := As.mk (fun W hW => hgr W hW hc)
  have HHD := As.mk (head_walk w0 (HTB.out _ hb0))
  have HZ := As.mk hz
  have HN := As.mk hn
  have HX := As.mk hx
  have e1 : wrap64 ((x.f0.size : Int) + (x.f2.size : Int)) = (x.f0.size : Int) + (x.f2.size : Int) := w64 _ (by omega) (by omega)
  have e2 : wrap64 ((x.f0.size : Int) + (x.f2.size : Int) + (x.f3.size : Int)) = (x.f0.size : Int) + (x.f2.size : Int) + (x.f3.size : Int) := w64 _ (by omega) (by omega)
  clear hC hcl hgr hz hn hx hba hka hb0 hk0 hk1 ht
  go_enter Tryz.func5, Tryz.ntmps5
  go_wp2_with (fail)
  refine HHD.out.mono ?_
  rintro e w1 ⟨rfl, hb1⟩
  have HB1 := As.mk hb1
  have HW1 := As.mk (HB0.out.trans (hb1.mono HB0.out.size))
  obtain ⟨⟨d0, d1, d2, d3⟩, q0, q1, q2, q3⟩ := HD.out _ hb1
  clear hb1 hwa hw0 hsa HHD
  go_wp2_with (fail)
  refine (HGR.out w1 (HCC.out _ HW1.out)).mono ?_
  rintro e w2 ⟨rfl, hb2⟩
  have HB2 := As.mk (HB1.out.trans (hb2.mono HB1.out.size))
  have HW2 := As.mk (HB0.out.trans (HB2.out.mono HB0.out.size))
  clear hb2 d0 d1 d2 d3 q0 q1 q2 q3
  cases b with
  | true =>
    go_wp2_with (fail)
    go_ret
    exact ⟨rfl, HW2.out⟩
  | false =>
    have hzc := HZ.out rfl
    have HZC := As.mk hzc
    have hz0 := hzc.h0
    have hz2 := hzc.h2
    have hz3 := hzc.h3
    clear hzc
    obtain ⟨⟨d0, d1, d2, d3⟩, q0, q1, q2, q3⟩ := HD.out _ HB2.out
    by_cases hs : 9000 < s.size
    · have dd : decide (9000 < s.size) = true := decide_eq_true hs
      go_wp2_with (fail)
      go_ret
      exact ⟨rfl, HW2.out⟩
    have dd : decide (9000 < s.size) = false := decide_eq_false hs
    by_cases h9 : (9000 : Int) < (x.f0.size : Int) + (x.f2.size : Int) + (x.f3.size : Int)
    · have de : decide ((9000 : Int) < (x.f0.size : Int) + (x.f2.size : Int) + (x.f3.size : Int)) = true := decide_eq_true h9
      go_wp2_with (fail)
      go_ret
      exact ⟨rfl, HW2.out⟩
    have de : decide ((9000 : Int) < (x.f0.size : Int) + (x.f2.size : Int) + (x.f3.size : Int)) = false := decide_eq_false h9
    have hx0 : x.f0.size ≤ 1000000000 := by omega
    have hx2 : x.f2.size ≤ 1000000000 := by omega
    have hx3 : x.f3.size ≤ 1000000000 := by omega
    have hs4 : s.size ≤ 400000000 := by omega
    have HSZ := As.mk (And.intro hx0 (And.intro hx2 (And.intro hx3 hs4)))
    have HPC := As.mk (fun W hC hc => putChange_walk A n cap c HZC.out.csh W hC HN.out hc)
    have HRC := As.mk (fun W (hC : Kd.C Kd.string W A n c.f1) => rputC_walk c HZC.out.csh A cap W (by rw [HN.out]; exact hC) (by rw [HN.out]; exact hc))
    rw [HN.out] at HRC
    have hcc := hc
    obtain ⟨o, f, hof⟩ : ∃ o f, putChange c = (o, f) := ⟨_, _, rfl⟩
    obtain ⟨p, g, hpg⟩ : ∃ p g, putLabel x = (p, g) := ⟨_, _, rfl⟩
    rw [hof] at HPC HRC
    have HOF := As.mk hof
    have HPL := As.mk (putLabel_walk x hx0 hx2 hx3)
    have HRL := As.mk (rputL_walk x hx2 hx3)
    rw [hpg] at HPL HRL
    clear hof hpg hz0 hz2 hz3 hx0 hx2 hx3 hs4
    go_wp2_with (fail)
    clear h9 e1 e2 de dd hs
    refine (HPC.out w2 (HCC.out _ HW2.out) hcc).mono ?_
    rintro e w3 ⟨rfl, hb3⟩
    have HB3 := As.mk (HB2.out.trans (hb3.mono HB2.out.size))
    have HW3 := As.mk (HB0.out.trans (HB3.out.mono HB0.out.size))
    clear hb3 d0 d1 d2 d3 q0 q1 q2 q3
    obtain ⟨⟨d0, d1, d2, d3⟩, q0, q1, q2, q3⟩ := HD.out _ HB3.out
    go_wp2_with (fail)
    refine (HRC.out w3 (HCC.out _ HW3.out)).mono ?_
    rintro e w4 ⟨rfl, hb4⟩
    have HB4 := As.mk (HB3.out.trans (hb4.mono HB3.out.size))
    have HW4 := As.mk (HB0.out.trans (HB4.out.mono HB0.out.size))
    clear hb4 d0 d1 d2 d3 q0 q1 q2 q3
    obtain ⟨_, q0, q1, q2, q3⟩ := HD.out _ HB4.out
    go_wp2_with (fail)
    refine (HPL.out w4).mono ?_
    rintro e w5 ⟨rfl, hb5⟩
    have HB5 := As.mk (HB4.out.trans (hb5.mono HB4.out.size))
    clear hb5 q0 q1 q2 q3
    obtain ⟨_, q0, q1, q2, q3⟩ := HD.out _ HB5.out
    go_wp2_with (fail)
    refine (HRL.out w5).mono ?_
    rintro e w6 ⟨rfl, hb6⟩
    have HB6 := As.mk (HB5.out.trans (hb6.mono HB5.out.size))
    have HW6 := As.mk (HB0.out.trans (HB6.out.mono HB0.out.size))
    clear hb6 q0 q1 q2 q3
    have HGC := As.mk (getChange_walk s HSZ.out.2.2.2 w6)
    obtain ⟨v, fv, hv⟩ : ∃ v fv, getChange s = (v, fv) := ⟨_, _, rfl⟩
    rw [hv] at HGC
    have hsh := finC_sh s HSZ.out.2.2.2
    rw [hv] at hsh
    have HSH := As.mk hsh
    have HRG := As.mk (fun W => rgetC_walk s HSZ.out.2.2.2 W)
    rw [hv] at HRG
    clear hv hsh
    go_wp2_with (fail)
    refine HGC.out.mono ?_
    rintro e w7 ⟨va, rfl, hRa, hb7⟩
    obtain ⟨Aa, ca, rfl, hca, hCa⟩ := Kd.R_reads hRa
    have HW7 := As.mk (HW6.out.trans (hb7.mono HW6.out.size))
    have HCa := As.mk hCa
    clear hRa hb7 hCa
    obtain ⟨m, hm⟩ : ∃ m, v.f1.length = m := ⟨_, rfl⟩
    have HM := As.mk hm
    rw [hm] at HCa hca ⊢
    clear hm
    obtain ⟨w8, hw8⟩ : ∃ w8, w7.alloc (.cells #[.string v.f0, .slice Aa m ca, .string v.f2, .string v.f3] 40) = w8 := ⟨_, rfl⟩
    have hb8 : Below w7.heap.size w7 w8 := by rw [← hw8]; exact (Below.refl _ _).alloc (Nat.le_refl _) _
    have hk8 : w8.heap[w7.heap.size]? = some (.cells #[.string v.f0, .slice Aa m ca, .string v.f2, .string v.f3] 40 (0, 0)) := by rw [← hw8]; exact blk_new w7 _
    have HW8e := As.mk hw8
    have HW8 := As.mk (HW7.out.trans (hb8.mono HW7.out.size))
    have HCa8 := As.mk (Kd.C_below HCa.out hb8)
    have HK8 := As.mk hk8
    clear hw8 hb8 hk8
    go_wp2_with (fail)
    rw [HW8e.out]
    clear HW8e
    refine (HRG.out w8).mono ?_
    rintro e w9 ⟨vb, rfl, hRb, hb9⟩
    obtain ⟨Ab, cb, rfl, hcb, hCb⟩ := Kd.R_reads hRb
    rw [HM.out] at hcb hCb ⊢
    have HW9 := As.mk (HW8.out.trans (hb9.mono HW8.out.size))
    have HCa9 := As.mk (Kd.C_below HCa8.out hb9)
    have HCb9 := As.mk hCb
    have HK9 := As.mk ((hb9.block _ (blk_lt HK8.out)).trans HK8.out)
    clear hRb hb9 hCb
    obtain ⟨w10, hw10⟩ : ∃ w10, w9.alloc (.cells #[.string v.f0, .slice Ab m cb, .string v.f2, .string v.f3] 40) = w10 := ⟨_, rfl⟩
    have hb10 : Below w9.heap.size w9 w10 := by rw [← hw10]; exact (Below.refl _ _).alloc (Nat.le_refl _) _
    have hk10 : w10.heap[w9.heap.size]? = some (.cells #[.string v.f0, .slice Ab m cb, .string v.f2, .string v.f3] 40 (0, 0)) := by rw [← hw10]; exact blk_new w9 _
    have HW10e := As.mk hw10
    have HW10 := As.mk (HW9.out.trans (hb10.mono HW9.out.size))
    have HCa10 := As.mk (Kd.C_below HCa9.out hb10)
    have HCb10 := As.mk (Kd.C_below HCb9.out hb10)
    have HKa10 := As.mk ((hb10.block _ (blk_lt HK9.out)).trans HK9.out)
    have HKb10 := As.mk hk10
    clear hw10 hb10 hk10
    go_wp2_with (fail)
    rw [HW10e.out]
    clear HW10e
    refine (getLabel_walk s HSZ.out.2.2.2 w10).mono ?_
    rintro e w11 ⟨rfl, hb11⟩
    have HRGL := As.mk (fun W => rgetL_walk s HSZ.out.2.2.2 W)
    obtain ⟨lb, fl, hlf⟩ : ∃ lb fl, getLabel s = (lb, fl) := ⟨_, _, rfl⟩
    rw [hlf] at HRGL ⊢
    clear hlf
    have HW11 := As.mk (HW10.out.trans (hb11.mono HW10.out.size))
    have HB1011 := As.mk hb11
    clear hb11
    obtain ⟨w12, hw12⟩ : ∃ w12, w11.alloc (.cells #[.string lb.f0, .int .i64 lb.f1, .string lb.f2, .string lb.f3] 42) = w12 := ⟨_, rfl⟩
    have hb12 : Below w11.heap.size w11 w12 := by rw [← hw12]; exact (Below.refl _ _).alloc (Nat.le_refl _) _
    have hk12 : w12.heap[w11.heap.size]? = some (.cells #[.string lb.f0, .int .i64 lb.f1, .string lb.f2, .string lb.f3] 42 (0, 0)) := by rw [← hw12]; exact blk_new w11 _
    have HW12e := As.mk hw12
    have HW12 := As.mk (HW11.out.trans (hb12.mono HW11.out.size))
    have HB1012 := As.mk (HB1011.out.trans (hb12.mono HB1011.out.size))
    have HK12 := As.mk hk12
    clear hw12 hb12 hk12
    go_wp2_with (fail)
    rw [HW12e.out]
    clear HW12e
    refine (HRGL.out w12).mono ?_
    rintro e w13 ⟨rfl, hb13⟩
    have HW13 := As.mk (HW12.out.trans (hb13.mono HW12.out.size))
    have HB1013 := As.mk (HB1012.out.trans (hb13.mono HB1012.out.size))
    have HK13 := As.mk ((hb13.block _ (blk_lt HK12.out)).trans HK12.out)
    clear hb13
    obtain ⟨w14, hw14⟩ : ∃ w14, w13.alloc (.cells #[.string lb.f0, .int .i64 lb.f1, .string lb.f2, .string lb.f3] 42) = w14 := ⟨_, rfl⟩
    have hb14 : Below w13.heap.size w13 w14 := by rw [← hw14]; exact (Below.refl _ _).alloc (Nat.le_refl _) _
    have hk14 : w14.heap[w13.heap.size]? = some (.cells #[.string lb.f0, .int .i64 lb.f1, .string lb.f2, .string lb.f3] 42 (0, 0)) := by rw [← hw14]; exact blk_new w13 _
    have HW14e := As.mk hw14
    have HW14 := As.mk (HW13.out.trans (hb14.mono HW13.out.size))
    have HB1014 := As.mk (HB1013.out.trans (hb14.mono HB1013.out.size))
    have HKc14 := As.mk ((hb14.block _ (blk_lt HK13.out)).trans HK13.out)
    have HKd14 := As.mk hk14
    have HKa14 := As.mk ((HB1014.out.block _ (blk_lt HKa10.out)).trans HKa10.out)
    have HKb14 := As.mk ((HB1014.out.block _ (blk_lt HKb10.out)).trans HKb10.out)
    have HSM := As.mk (sameC_walk v (by have := HSH.out.hl; omega) Aa Ab ca cb w14 (by rw [HM.out]; exact Kd.C_below HCa10.out HB1014.out) (by rw [HM.out]; exact hca) (by rw [HM.out]; exact Kd.C_below HCb10.out HB1014.out) (by rw [HM.out]; exact hcb))
    rw [HM.out] at HSM
    have ca0 : w14.cell? ⟨w7.heap.size, 0, none⟩ = some (.string v.f0) := (blk_cell HKa14.out 0).trans rfl
    have ca1 : w14.cell? ⟨w7.heap.size, 1, none⟩ = some (.slice Aa m ca) := (blk_cell HKa14.out 1).trans rfl
    have ca2 : w14.cell? ⟨w7.heap.size, 2, none⟩ = some (.string v.f2) := (blk_cell HKa14.out 2).trans rfl
    have ca3 : w14.cell? ⟨w7.heap.size, 3, none⟩ = some (.string v.f3) := (blk_cell HKa14.out 3).trans rfl
    have cb0 : w14.cell? ⟨w9.heap.size, 0, none⟩ = some (.string v.f0) := (blk_cell HKb14.out 0).trans rfl
    have cb1 : w14.cell? ⟨w9.heap.size, 1, none⟩ = some (.slice Ab m cb) := (blk_cell HKb14.out 1).trans rfl
    have cb2 : w14.cell? ⟨w9.heap.size, 2, none⟩ = some (.string v.f2) := (blk_cell HKb14.out 2).trans rfl
    have cb3 : w14.cell? ⟨w9.heap.size, 3, none⟩ = some (.string v.f3) := (blk_cell HKb14.out 3).trans rfl
    clear hb14 hk14 HW14e
    go_wp2_with (fail)
    clear hw14
    refine HSM.out.mono ?_
    rintro e w15 ⟨rfl, hb15⟩
    have HW15 := As.mk (HW14.out.trans (hb15.mono HW14.out.size))
    have hkc := (hb15.block _ (blk_lt HKc14.out)).trans HKc14.out
    have hkd := (hb15.block _ (blk_lt HKd14.out)).trans HKd14.out
    have cc0 : w15.cell? ⟨w11.heap.size, 0, none⟩ = some (.string lb.f0) := (blk_cell hkc 0).trans rfl
    have cc1 : w15.cell? ⟨w11.heap.size, 1, none⟩ = some (.int .i64 lb.f1) := (blk_cell hkc 1).trans rfl
    have cc2 : w15.cell? ⟨w11.heap.size, 2, none⟩ = some (.string lb.f2) := (blk_cell hkc 2).trans rfl
    have cc3 : w15.cell? ⟨w11.heap.size, 3, none⟩ = some (.string lb.f3) := (blk_cell hkc 3).trans rfl
    have cd0 : w15.cell? ⟨w13.heap.size, 0, none⟩ = some (.string lb.f0) := (blk_cell hkd 0).trans rfl
    have cd1 : w15.cell? ⟨w13.heap.size, 1, none⟩ = some (.int .i64 lb.f1) := (blk_cell hkd 1).trans rfl
    have cd2 : w15.cell? ⟨w13.heap.size, 2, none⟩ = some (.string lb.f2) := (blk_cell hkd 2).trans rfl
    have cd3 : w15.cell? ⟨w13.heap.size, 3, none⟩ = some (.string lb.f3) := (blk_cell hkd 3).trans rfl
    clear hb15 hkc hkd ca0 ca1 ca2 ca3 cb0 cb1 cb2 cb3
    go_wp2_with (fail)
    go_ret
    exact ⟨rfl, HW15.out⟩
end Go.Proofs.YtefefhhaopjccaaGreatDoor.Ob
