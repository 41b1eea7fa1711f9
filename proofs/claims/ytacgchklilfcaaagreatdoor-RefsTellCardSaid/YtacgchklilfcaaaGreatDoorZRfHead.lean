/- The law's head: a live question, whose answer is fixed. -/
import Derived.Test.YtacgchklilfcaaaGreatDoorZPRfGetx0
import Derived.Test.YtacgchklilfcaaaGreatDoorZPRfGetx1
import Derived.Test.YtacgchklilfcaaaGreatDoorZRfS6
import Derived.Lib.SlBytesConst
namespace Go.Proofs.YtacgchklilfcaaaGreatDoor.Rf
set_option linter.unusedVariables false
set_option linter.unusedSimpArgs false
set_option maxRecDepth 100000
open Go Go.RowKit Go.Proofs.YtacgchklilfcaaaGreatDoorW.PrintWords Go.Proofs.YtacgchklilfcaaaGreatDoorW.PrintLast Go.Proofs.YtacgchklilfcaaaGreatDoorW.PrintMore PRfBase PRfGet
theorem new_C {α : Type} (d : Kd α) (e : TypeId) (W : World) {xs : List α} {inner : List Value} (hr : Reps (d.K (W.alloc (.cells inner.toArray e))) d.sz xs inner) (hm : xs.length ≤ 9223372036854775807) : d.C (W.alloc (.cells inner.toArray e)) (some ⟨W.heap.size, 0, none⟩) xs.length xs := by
  obtain ⟨A, c, hv, _, h⟩ := (OwnRow.lit W W.heap.size hr (Nat.le_refl _) hm : OwnRow (d.K (W.alloc (.cells inner.toArray e))) e d.sz _ _ _ _).reads
  injection hv with h1 h2 h3
  rw [h1]; exact h
def nm97 : ByteArray := strOfNums (Dg.nameL (Dg.shaL [97]))
theorem nm97_nm : nmB nm97 = true := by decide +kernel
theorem name97_walk (w : World) : Calls Tryz.prog 19 #[.slice (some ⟨w.heap.size, 0, none⟩) 1 1] (w.alloc (.cells #[.int .u8 97] 5 (1, 2))) fun e w' => e = .returned (.string nm97) ∧ Below w.heap.size w w' := by
  have hC : (Kd.int .u8).C (w.alloc (.cells #[.int .u8 97] 5 (1, 2))) (some ⟨w.heap.size, 0, none⟩) 1 [97] := by
    refine Kd.C_of_reads (enc := Value.int .u8) (d := (0 : Int)) ⟨rfl, by decide, fun _ => ⟨_, rfl, fun j hj => ?_⟩⟩
    have hb : (w.alloc (.cells #[.int .u8 97] 5 (1, 2))).heap[w.heap.size]? = some (.cells #[.int .u8 97] 5 (1, 2)) := by
      show (w.heap.push _)[w.heap.size]? = _
      simp
    rcases (show j = 0 by omega) with rfl
    unfold World.cell? Addr.add
    simp only [if_true]
    rw [hb]; rfl
  refine (Dg.rname_calls _ 1 [97] _ hC (Nat.le_refl _) (by decide) (by decide)).mono ?_
  rintro e w' ⟨rfl, hb⟩
  have h1 : Below w.heap.size w (w.alloc (.cells #[.int .u8 97] 5 (1, 2))) := (Below.refl _ _).alloc (Nat.le_refl _) _
  exact ⟨rfl, h1.trans (hb.mono h1.size)⟩
theorem apply_new (P0 : Nat → Prop) (A0 : Option Addr) (c0 n0 : Nat) (l : List Ref) (u : List Upd) (inner : List Value) (W : World) (hl : l.length = n0) (hs0 : Kd.V k46 46 W W.heap.size (fun k_ => P0 k_) (.slice A0 n0 c0) l) (hr : Reps (k40.K (W.alloc (.cells inner.toArray 40))) 3 u inner) (hu : u.length ≤ 64) (hsl : Zsh l) (hsu : Ush u) :
    Calls Tryz.prog 7 #[.slice A0 n0 c0, .slice (some ⟨W.heap.size, 0, none⟩) u.length u.length] (W.alloc (.cells inner.toArray 40)) fun e w' => ∃ v, e = .returned (.tuple #[v, .int .i64 (applyL l u).2.1, .int .i64 (applyL l u).2.2]) ∧ Kd.V k46 46 w' w'.heap.size (fun _ => True) v (applyL l u).1 ∧ Below W.heap.size W w' := by
  have hb : Below W.heap.size W (W.alloc (.cells inner.toArray 40)) := (Below.refl _ _).alloc (Nat.le_refl _) _
  have hC : Kd.C k40 (W.alloc (.cells inner.toArray 40)) (some ⟨W.heap.size, 0, none⟩) u.length u := new_C k40 40 W hr (by omega)
  subst hl
  refine (apply_walk P0 A0 c0 l.length l _ _ _ u _ (Kd.V_map hs0 (fun _ hf => Kd.F_below hf hb)) hC rfl (Nat.le_refl _) hsl hsu).mono ?_
  rintro e w' ⟨v, rfl, hv, hb'⟩
  exact ⟨v, rfl, Kd.V_mono hv (fun _ _ => trivial), hb.trans (hb'.mono hb.size)⟩
theorem zsh1 {a : ByteArray} (h : nmB a = true) : Zsh [⟨ha, a⟩] := fun x hx => by
  obtain rfl := List.mem_singleton.1 hx
  have := nm_size h
  exact ⟨by show ha.size ≤ _; decide, by show a.size ≤ _; omega⟩
theorem ush_of {u : List Upd} (h : ∀ x ∈ u, x.f0.size ≤ 100 ∧ x.f1.size ≤ 100 ∧ x.f2.size ≤ 100) : Ush u := fun x hx => by
  have := h x hx
  exact ⟨by omega, by omega, by omega⟩
section
variable {a : ByteArray} (h : nmB a = true)
include h
theorem A1 (W : World) : Calls Tryz.prog 7 #[.slice none 0 0, .slice (some ⟨W.heap.size, 0, none⟩) 1 1] (W.alloc (.cells #[.string ha, .string e0, .string a] 40)) fun e w' => ∃ v, e = .returned (.tuple #[v, .int .i64 0, .int .i64 0]) ∧ Kd.V k46 46 w' w'.heap.size (fun _ => True) v [⟨ha, a⟩] ∧ Below W.heap.size W w' := by
  have hz := nm_size h
  have := apply_new (fun _ => True) none 0 0 [] [⟨ha, e0, a⟩] [.string ha, .string e0, .string a] W rfl (Kd.V_nil _ _ _ _ _) ((Reps.none _ _).snoc (k40_mk _ ⟨ha, e0, a⟩) rfl) (by simp) (fun x hx => by cases hx) (ush_of (fun x hx => by obtain rfl := List.mem_singleton.1 hx; exact ⟨by show ha.size ≤ _; decide, by show e0.size ≤ _; decide, by show a.size ≤ _; omega⟩))
  rw [P1 h] at this
  exact this
theorem A2 (W : World) (A0 : Option Addr) (c0 : Nat) (hs0 : Kd.V k46 46 W W.heap.size (fun _ => True) (.slice A0 1 c0) [⟨ha, a⟩]) : Calls Tryz.prog 7 #[.slice A0 1 c0, .slice (some ⟨W.heap.size, 0, none⟩) 2 2] (W.alloc (.cells #[.string hb, .string e0, .string a, .string hab, .string e0, .string a] 40)) fun e w' => ∃ v, e = .returned (.tuple #[v, .int .i64 91, .int .i64 1]) ∧ Kd.V k46 46 w' w'.heap.size (fun _ => True) v [⟨ha, a⟩] ∧ Below W.heap.size W w' := by
  have hz := nm_size h
  have := apply_new (fun _ => True) A0 c0 1 [⟨ha, a⟩] [⟨hb, e0, a⟩, ⟨hab, e0, a⟩] [.string hb, .string e0, .string a, .string hab, .string e0, .string a] W rfl hs0 (((Reps.none _ _).snoc (k40_mk _ ⟨hb, e0, a⟩) rfl).snoc (k40_mk _ ⟨hab, e0, a⟩) rfl) (by simp) (zsh1 h) (ush_of (fun x hx => by
    rcases List.mem_cons.1 hx with rfl | hx
    · exact ⟨by show hb.size ≤ _; decide, by show e0.size ≤ _; decide, by show a.size ≤ _; omega⟩
    · obtain rfl := List.mem_singleton.1 hx; exact ⟨by show hab.size ≤ _; decide, by show e0.size ≤ _; decide, by show a.size ≤ _; omega⟩))
  rw [P2 h] at this
  exact this
theorem A3 (W : World) (A0 : Option Addr) (c0 : Nat) (hs0 : Kd.V k46 46 W W.heap.size (fun _ => True) (.slice A0 1 c0) [⟨ha, a⟩]) : Calls Tryz.prog 7 #[.slice A0 1 c0, .slice (some ⟨W.heap.size, 0, none⟩) 1 1] (W.alloc (.cells #[.string ha, .string e0, .string a] 40)) fun e w' => ∃ v, e = .returned (.tuple #[v, .int .i64 92, .int .i64 0]) ∧ Kd.V k46 46 w' w'.heap.size (fun _ => True) v [⟨ha, a⟩] ∧ Below W.heap.size W w' := by
  have hz := nm_size h
  have := apply_new (fun _ => True) A0 c0 1 [⟨ha, a⟩] [⟨ha, e0, a⟩] [.string ha, .string e0, .string a] W rfl hs0 ((Reps.none _ _).snoc (k40_mk _ ⟨ha, e0, a⟩) rfl) (by simp) (zsh1 h) (ush_of (fun x hx => by obtain rfl := List.mem_singleton.1 hx; exact ⟨by show ha.size ≤ _; decide, by show e0.size ≤ _; decide, by show a.size ≤ _; omega⟩))
  rw [P3 h] at this
  exact this
theorem A4 (W : World) (A0 : Option Addr) (c0 : Nat) (hs0 : Kd.V k46 46 W W.heap.size (fun _ => True) (.slice A0 1 c0) [⟨ha, a⟩]) : Calls Tryz.prog 7 #[.slice A0 1 c0, .slice (some ⟨W.heap.size, 0, none⟩) 2 2] (W.alloc (.cells #[.string ha, .string a, .string e0, .string hab, .string e0, .string a] 40)) fun e w' => ∃ v, e = .returned (.tuple #[v, .int .i64 0, .int .i64 0]) ∧ Kd.V k46 46 w' w'.heap.size (fun _ => True) v [⟨hab, a⟩] ∧ Below W.heap.size W w' := by
  have hz := nm_size h
  have := apply_new (fun _ => True) A0 c0 1 [⟨ha, a⟩] [⟨ha, a, e0⟩, ⟨hab, e0, a⟩] [.string ha, .string a, .string e0, .string hab, .string e0, .string a] W rfl hs0 (((Reps.none _ _).snoc (k40_mk _ ⟨ha, a, e0⟩) rfl).snoc (k40_mk _ ⟨hab, e0, a⟩) rfl) (by simp) (zsh1 h) (ush_of (fun x hx => by
    rcases List.mem_cons.1 hx with rfl | hx
    · exact ⟨by show ha.size ≤ _; decide, by show a.size ≤ _; omega, by show e0.size ≤ _; decide⟩
    · obtain rfl := List.mem_singleton.1 hx; exact ⟨by show hab.size ≤ _; decide, by show e0.size ≤ _; decide, by show a.size ≤ _; omega⟩))
  rw [P4 h] at this
  exact this
theorem A5 (W : World) (A0 : Option Addr) (c0 : Nat) (hC : Kd.C k46 W A0 1 [⟨ha, a⟩]) (hc : 1 ≤ c0) : Calls Tryz.prog 20 #[.slice A0 1 c0] W fun e w' => e = .returned (.tuple #[.string (textL [⟨ha, a⟩]), .bool true]) ∧ Below W.heap.size W w' := by
  have := put_walk A0 c0 1 [⟨ha, a⟩] W hC rfl hc (zsh1 h)
  rw [put_right (right_one name_ha h ab1)] at this
  exact this
theorem A6 (W : World) : Calls Tryz.prog 21 #[.string (textL [⟨ha, a⟩])] W fun e w' => ∃ A c, e = .returned (.tuple #[.slice A 1 c, .bool true]) ∧ Below W.heap.size W w' := by
  have hz : (textL [⟨ha, a⟩]).size ≤ 1000000000 := by
    rw [← L_len, L_text]
    have := lines_len (zsh1 h)
    have e : linesL [⟨ha, a⟩] = L (lineS ⟨ha, a⟩) := by simp [linesL]
    rw [e, L_len, lineS_size]
    have := nm_size h
    show a.size + 1 + ha.size + 1 ≤ _
    have : ha.size = 7 := rfl
    omega
  obtain ⟨k, hk⟩ := (get_ev _ hz).rounds
  rw [get_text (right_one name_ha h ab1)] at hk
  refine (refs_Get.calls k _ _ _ W hk).mono ?_
  rintro e w' ⟨v, rfl, hR, hb⟩
  obtain ⟨A, c, rfl⟩ := Kd.R_slice hR
  exact ⟨A, c, rfl, hb⟩
end
set_option maxHeartbeats 64000000 in
theorem head_calls (w : World) : Calls Tryz.prog 4 #[] w fun e w' => e = .returned (.bool true) ∧ Below w.heap.size w w' := by
  have hN := name97_walk
  obtain ⟨a, ha_⟩ : ∃ a, nm97 = a := ⟨_, rfl⟩
  have hnm := nm97_nm
  rw [ha_] at hnm hN
  have HN := As.mk hN
  have HNM := As.mk hnm
  clear hN hnm ha_
  have hcv := Lib.run_convert_bytes_const (P := Tryz.prog) w 38 5 #[.int .u8 97] 1 1 Tryz.underlying38 Tryz.underlying5
  go_enter Tryz.func4, Tryz.ntmps4
  go_wp2_with (fail)
  refine (HN.out _).mono ?_
  rintro e w1 ⟨rfl, hb⟩
  have HB1 := As.mk hb
  clear hb hcv
  go_wp2_with (fail)
  refine (A1 HNM.out w1).mono ?_
  rintro e w2 ⟨v, rfl, hv, hb⟩
  obtain ⟨A, c, rfl⟩ := Kd.V_slice hv
  have HV2 := As.mk hv
  have HB2 := As.mk (HB1.out.trans (hb.mono HB1.out.size))
  clear hv hb
  go_wp2_with (fail)
  refine (A2 HNM.out w2 A c HV2.out).mono ?_
  rintro e w3 ⟨v, rfl, hv, hb⟩
  have HV3 := As.mk (Kd.V_map HV2.out (fun _ hf => Kd.F_below hf hb) (base' := w3.heap.size))
  have HB3 := As.mk (HB2.out.trans (hb.mono HB2.out.size))
  clear hv hb
  go_wp2_with (fail)
  refine (A3 HNM.out w3 A c HV3.out).mono ?_
  rintro e w4 ⟨v4, rfl, hv, hb⟩
  have HV4 := As.mk (Kd.V_map HV3.out (fun _ hf => Kd.F_below hf hb) (base' := w4.heap.size))
  have HB4 := As.mk (HB3.out.trans (hb.mono HB3.out.size))
  clear hv hb HV3 HV2
  go_wp2_with (fail)
  refine (A4 HNM.out w4 A c HV4.out).mono ?_
  rintro e w5 ⟨v5, rfl, hv, hb⟩
  obtain ⟨A5_, c5, rfl⟩ := Kd.V_slice hv
  have HV5 := As.mk (Kd.V_map HV4.out (fun _ hf => Kd.F_below hf hb) (base' := w5.heap.size))
  have HB5 := As.mk (HB4.out.trans (hb.mono HB4.out.size))
  clear hv hb HV4
  go_wp2_with (fail)
  have h5 := Kd.V_at HV5.out
  refine (A5 HNM.out w5 A c (Kd.F_now h5.2.2) h5.2.1).mono ?_
  rintro e w6 ⟨rfl, hb⟩
  have HV6 := As.mk (Kd.V_map HV5.out (fun _ hf => Kd.F_below hf hb) (base' := w6.heap.size))
  have HB6 := As.mk (HB5.out.trans (hb.mono HB5.out.size))
  clear hb HV5 h5
  go_wp2_with (fail)
  refine (A6 HNM.out w6).mono ?_
  rintro e w7 ⟨A7, c7, rfl, hb⟩
  have HV7 := As.mk (Kd.V_map HV6.out (fun _ hf => Kd.F_below hf hb) (base' := w7.heap.size))
  have HB7 := As.mk (HB6.out.trans (hb.mono HB6.out.size))
  clear hb HV6
  go_wp2_with (fail)
  have h7 := Kd.V_at HV7.out
  refine ((find_walk A c 1 [⟨ha, a⟩] ha w7 (Kd.F_now h7.2.2) rfl h7.2.1)).mono ?_
  rintro e w8 ⟨rfl, hb⟩
  rw [P6]
  have HV8 := As.mk (Kd.V_map HV7.out (fun _ hf => Kd.F_below hf hb) (base' := w8.heap.size))
  have HB8 := As.mk (HB7.out.trans (hb.mono HB7.out.size))
  clear hb HV7 h7
  go_wp2_with (fail)
  have h8 := Kd.V_at HV8.out
  have hz8 := zsh1 HNM.out
  refine (tips_walk A c 1 [⟨ha, a⟩] w8 (Kd.F_now h8.2.2) rfl h8.2.1 (fun x hx => ⟨by have := (hz8 x hx).1; omega, by have := (hz8 x hx).2; omega⟩) (by decide)).mono ?_
  rintro e w9 ⟨v9, rfl, hR, hb⟩
  obtain ⟨A9, c9, rfl⟩ := Kd.R_slice hR
  rw [P7]
  have HB9 := As.mk (HB8.out.trans (hb.mono HB8.out.size))
  clear hb hR h8 hz8 HV8
  go_wp2_with (fail)
  refine (named_walk tv (by decide) w9).mono ?_
  rintro e w10 ⟨rfl, hb⟩
  rw [name_tv]
  have HB10 := As.mk (HB9.out.trans (hb.mono HB9.out.size))
  clear hb
  go_wp2_with (fail)
  refine (named_walk tags (by decide) w10).mono ?_
  rintro e w11 ⟨rfl, hb⟩
  rw [name_tags]
  have HB11 := As.mk (HB10.out.trans (hb.mono HB10.out.size))
  clear hb
  go_wp2_with (fail)
  have hbn : Below w11.heap.size w11 (w11.alloc (.cells #[.string e0, .string e0] 46)) := (Below.refl _ _).alloc (Nat.le_refl _) _
  have hCn : Kd.C k46 (w11.alloc (.cells #[.string e0, .string e0] 46)) (some ⟨w11.heap.size, 0, none⟩) 1 [(⟨e0, e0⟩ : Ref)] := new_C k46 46 w11 (xs := [(⟨e0, e0⟩ : Ref)]) (inner := [.string e0, .string e0]) ((Reps.none _ _).snoc (k46_mk _ ⟨e0, e0⟩) rfl) (by decide)
  refine (right_walk _ 1 1 [(⟨e0, e0⟩ : Ref)] _ hCn rfl (Nat.le_refl _) (fun x hx => by obtain rfl := List.mem_singleton.1 hx; exact ⟨by show e0.size ≤ _; decide, by show e0.size ≤ _; decide⟩)).mono ?_
  rintro e w12 ⟨rfl, hb⟩
  rw [right_bad]
  have HB12 := As.mk (HB11.out.trans ((hbn.trans (hb.mono hbn.size)).mono HB11.out.size))
  clear hb hbn hCn
  go_wp2_with (fail)
  go_ret
  exact ⟨rfl, HB12.out⟩
namespace Gv
def head.f : Option Bool := some true
theorem head.calls (r : Bool) (w : World) (h : head.f = some r) : Calls Tryz.prog 4 #[] w fun e w' => e = .returned (.bool r) ∧ Below w.heap.size w w' := by
  obtain rfl := Option.some.inj h
  exact head_calls w
end Gv
end Go.Proofs.YtacgchklilfcaaaGreatDoor.Rf
