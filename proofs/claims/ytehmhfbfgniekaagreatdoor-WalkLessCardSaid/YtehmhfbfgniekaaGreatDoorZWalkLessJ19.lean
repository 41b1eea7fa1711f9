/- Joined texts: ObId, ObW2, WkM2, ObRId, WkWants, ObHeadP, WkSet. No condition but what stands in each. -/
import Derived.Test.YtehmhfbfgniekaaGreatDoorZWalkLessJ14
import Derived.Test.YtehmhfbfgniekaaGreatDoorZWalkLessJ18
import Derived.Lib.ConvBytes
import Derived.Test.YtehmhfbfgniekaaGreatDoorZWalkLessJ12
import Derived.Test.YtehmhfbfgniekaaGreatDoorZWalkLessJ5
namespace Go.Proofs.YtehmhfbfgniekaaGreatDoor.Ob
set_option linter.unusedVariables false
set_option linter.unusedSimpArgs false
open Go Go.RowKit Go.Proofs.YtehmhfbfgniekaaGreatDoorW.PrintWords Go.Proofs.YtehmhfbfgniekaaGreatDoorW.PrintLast Go.Proofs.YtehmhfbfgniekaaGreatDoorW.PrintMore PObBase PObDoc
theorem conv_C (W : World) (s : ByteArray) (hs : s.size ≤ 1099511627776) : (Kd.int .u8).C (Lib.bytesWorld W 5 s) (some ⟨W.heap.size, 0, none⟩) (bytesOf s).length (bytesOf s) := by
  refine Kd.C_of_reads (enc := Value.int .u8) (d := (0 : Int)) ⟨rfl, by rw [bytesOf_length]; omega, fun _ => ⟨_, rfl, fun j hj => ?_⟩⟩
  rw [bytesOf_length] at hj
  have e : ((⟨W.heap.size, 0, none⟩ : Addr).add j) = ⟨W.heap.size, j, none⟩ := by rw [add_at, Nat.zero_add]
  rw [e, Lib.bytesWorld_cell W 5 s j hj]
  have hl : j < s.data.size := hj
  simp [bytesOf, List.getD]
  rw [Array.getElem?_eq_getElem hl]; rfl
theorem conv_below (W : World) (s : ByteArray) : Below W.heap.size W (Lib.bytesWorld W 5 s) :=
  ⟨rfl, rfl, rfl, by rw [Lib.bytesWorld_size]; omega, fun k hk => Lib.bytesWorld_at_old W _ s k hk⟩
theorem bytesOf_8 (s : ByteArray) : ∀ x ∈ bytesOf s, 0 ≤ x ∧ x < 256 := by
  intro x hx
  unfold bytesOf at hx
  obtain ⟨u, _, rfl⟩ := List.mem_map.1 hx
  have := u.toNat_lt
  omega
theorem run_conv (W : World) (s : ByteArray) : (convert 9 80 (.string s)).run Tryz.prog W = .ok (.slice (some ⟨W.heap.size, 0, none⟩) s.size (grownCap W s.size 0 5)) (Lib.bytesWorld W 5 s) :=
  Lib.run_convert_string_bytes W _ _ _ s Tryz.underlying9 Tryz.underlying80 Tryz.underlying5
def idT (k : Int) (d : ByteArray) : ByteArray := bs (wordL k) ++ (⟨#[32]⟩ : ByteArray) ++ textS (d.size : Int) ++ (⟨#[10]⟩ : ByteArray) ++ d
noncomputable def nameS (s : ByteArray) : ByteArray := strOfNums (Dg.nameL (Dg.shaL (bytesOf s)))
noncomputable def idS (k : Int) (d : ByteArray) : ByteArray := if rightB k d then nameS (idT k d) else ⟨#[]⟩
theorem name_at (W : World) (s : ByteArray) (hs : s.size ≤ 1099511627776) : Calls Tryz.prog 57 #[.slice (some ⟨W.heap.size, 0, none⟩) s.size (grownCap W s.size 0 5)] (Lib.bytesWorld W 5 s) fun e w' => e = .returned (.string (nameS s)) ∧ Below (Lib.bytesWorld W 5 s).heap.size (Lib.bytesWorld W 5 s) w' := by
  have h := Dg.name_calls (some ⟨W.heap.size, 0, none⟩) (grownCap W s.size 0 5) (bytesOf s) (Lib.bytesWorld W 5 s) (conv_C W s hs) (by rw [bytesOf_length]; exact grownCap_ge _ _ _ _) (by rw [bytesOf_length]; exact hs) (bytesOf_8 s)
  rw [bytesOf_length] at h
  exact h
theorem rightB_kind {k : Int} {d : ByteArray} (h : rightB k d = true) : 1 ≤ k ∧ k ≤ 4 ∧ d.size ≤ 65536 := by
  by_cases hs : d.size ≤ 65536
  · by_cases h1 : k = 1
    · omega
    by_cases h2 : k = 2
    · omega
    by_cases h3 : k = 3
    · omega
    by_cases h4 : k = 4
    · omega
    rw [rightB_else h1 h2 h3 h4] at h; cases h
  · rw [rightB_size hs] at h; cases h
theorem textS_size (n : Nat) (hn : n ≤ 65536) : (textS (n : Int)).size ≤ 21 := by
  unfold textS
  rw [if_neg (by omega)]
  have := Lib.itoa_length_le (n : Int) (by omega) (by omega)
  show (Lib.itoa (n : Int)).toArray.size ≤ 21
  simpa using this
set_option maxHeartbeats 16000000 in
set_option maxRecDepth 100000 in
theorem id_walk (k : Int) (d : ByteArray) (hd : d.size ≤ 400000000) (w : World) (ht : Tbl w) :
    Calls Tryz.prog 40 #[.agg #[.int .i64 k, .string d]] w fun e w' => e = .returned (.string (idS k d)) ∧ Below w.heap.size w w' := by
  obtain ⟨w0, hw0⟩ : ∃ w0, w.alloc (.cells #[.int .i64 k, .string d] 30) = w0 := ⟨_, rfl⟩
  have hb0 : Below w.heap.size w w0 := by rw [← hw0]; exact (Below.refl _ _).alloc (Nat.le_refl _) _
  have hnew : w0.heap[w.heap.size]? = some (.cells #[.int .i64 k, .string d] 30 (0, 0)) := by rw [← hw0]; exact blk_new w _
  have hd0 : w0.cell? ⟨w.heap.size, 0, none⟩ = some (.int .i64 k) := (blk_cell hnew 0).trans rfl
  have hd1 : w0.cell? ⟨w.heap.size, 1, none⟩ = some (.string d) := (blk_cell hnew 1).trans rfl
  have HTB : As (∀ w', Below w.heap.size w w' → Tbl w') := ⟨fun w' hb => ht.below hb⟩
  have HBX0 : As (Bx w w.heap.size #[.int .i64 k, .string d] 30 w0) := ⟨⟨hb0, hnew⟩⟩
  have HRT := As.mk (right_walk k d hd w0 (HTB.out _ hb0))
  have HDS := As.mk hd
  clear hb0 hnew ht hd
  go_enter Tryz.func40, Tryz.ntmps40
  go_wp2_with (fail)
  refine HRT.out.mono ?_
  rintro e w1 ⟨rfl, hb1⟩
  have HBX1 := As.mk (HBX0.out.next hb1)
  clear hb1 hd0 hd1
  rcases hr : rightB k d with _ | _
  · have HP : As (idS k d = ⟨#[]⟩) := ⟨by rw [idS, hr]; rfl⟩
    go_wp2_with (fail)
    go_ret
    rw [HP.out]
    exact ⟨rfl, HBX1.out.hb⟩
  have HP : As (idS k d = nameS (idT k d)) := ⟨by rw [idS, hr]; rfl⟩
  obtain ⟨g1, g4, gs⟩ := rightB_kind hr
  have hidx := idx_words k g1 g4
  obtain ⟨wd, hwd⟩ : ∃ wd, bs (wordL k) = wd := ⟨_, rfl⟩
  have hws : wd.size ≤ 6 := by rw [← hwd, bs_size]; exact word_size _
  rw [hwd] at hidx
  obtain ⟨tx, htx⟩ : ∃ tx, textS (d.size : Int) = tx := ⟨_, rfl⟩
  have hts : tx.size ≤ 21 := by rw [← htx]; exact textS_size _ gs
  have HTXT : As (wd ++ (⟨#[32]⟩ : ByteArray) ++ tx ++ (⟨#[10]⟩ : ByteArray) ++ d = idT k d) := ⟨by rw [← hwd, ← htx]; rfl⟩
  have HSZ : As ((wd ++ (⟨#[32]⟩ : ByteArray) ++ tx ++ (⟨#[10]⟩ : ByteArray) ++ d).size ≤ 1099511627776) := ⟨by
    simp only [ByteArray.size_append]
    have e1 : (⟨#[32]⟩ : ByteArray).size = 1 := rfl
    have e2 : (⟨#[10]⟩ : ByteArray).size = 1 := rfl
    omega⟩
  have HTX := As.mk htx
  have z1 : ¬ 9223372036854775807 < wd.size + 1 := by omega
  have z2 : ¬ 9223372036854775807 < wd.size + 1 + tx.size := by omega
  have z3 : ¬ 9223372036854775807 < wd.size + 1 + tx.size + 1 := by omega
  have z4 : ¬ 9223372036854775807 < wd.size + 1 + tx.size + 1 + d.size := by omega
  have HBX : As (Bx w w.heap.size #[.int .i64 k, .string d] 30 w1.drew) := ⟨⟨below_drew HBX1.out.hb, HBX1.out.hk⟩⟩
  clear hr g1 g4 gs hws hwd htx hts
  go_wp2_with (fail)
  refine start_ (n := 17) (S := Bx w w.heap.size #[.int .i64 k, .string d] 30) (ds := []) (bl_ 17 0) (by kernel_rfl) rfl rfl (HBX.out) (fun hHeld => ?_)
  refine pv_ 1 7 (bl_ 17 2) ?_
  refine pv_ 5 11 (bl_ 17 34) ?_
  refine pv_ 11 17 (bl_ 17 2082) ?_
  refine tk_ 2 8 (bl_ 17 2086) hHeld (hv := by intro w' s0; have hc := blk_cell s0.hk 0; go_simp; with_reducible rfl) (h := ?_)
  refine tk_ 6 12 (bl_ 17 2150) hHeld (hv := by intro w' s0; have hc := blk_cell s0.hk 1; go_simp; with_reducible rfl) (h := ?_)
  refine pv_ 7 13 (bl_ 17 2278) ?_
  refine tk_ 12 18 (bl_ 17 6374) hHeld (hv := by intro w' s0; have hc := blk_cell s0.hk 1; go_simp; with_reducible rfl) (h := ?_)
  refine one_ (i := 0) (N := some 6) (bl_ 17 6375) rfl rfl (by kernel_rfl) (by decide) (fun K hK => ?_)
  refine goes_ Tryz.func58 (by kernel_rfl) rfl #[] (by rfl) rfl rfl (by simp only [List.map_toArray, List.map_cons, List.map_nil]) ?_
  with_reducible refine (words_walk _).mono ?_
  rintro e w10 ⟨rfl, hb10⟩
  refine ⟨_, rfl, ?_⟩
  refine hK.out _ _ (hHeld.next hb10) (fun hHeld => ?_)
  clear hK K
  refine norm_ (a' := ?_) ?_ ?_
  rotate_left
  · show Act.put _ (some 6) _ = _
    simp only [Act.put, List.setIfInBounds_toArray, List.set_cons_zero, List.set_cons_succ, i64_w, i32_w]
    rfl
  refine tk_ 3 9 (bl_ 17 6383) hHeld (hv := by intro w' s0; have hc := hidx w'; go_simp; with_reducible rfl) (h := ?_)
  refine pv_ 4 10 (bl_ 17 6399) ?_
  refine one_ (i := 8) (N := some 14) (bl_ 17 6655) rfl rfl (by kernel_rfl) (by decide) (fun K hK => ?_)
  refine goes_ Tryz.func59 (by kernel_rfl) rfl #[.int .i64 (d.size : Int)] (by rfl) rfl rfl (by simp only [List.map_toArray, List.map_cons, List.map_nil]; rfl) ?_
  with_reducible refine (text_walk (d.size : Int) _ (by omega) (by have := HDS.out; omega) (HTB.out _ hHeld.hb)).mono ?_
  rintro e w11 ⟨rfl, hb11⟩
  refine ⟨_, rfl, ?_⟩
  rw [HTX.out]
  refine hK.out _ _ (hHeld.next hb11) (fun hHeld => ?_)
  clear hK K
  refine norm_ (a' := ?_) ?_ ?_
  rotate_left
  · show Act.put _ (some 14) _ = _
    simp only [Act.put, List.setIfInBounds_toArray, List.set_cons_zero, List.set_cons_succ, i64_w, i32_w]
    rfl
  refine pv_ 9 15 (bl_ 17 7167) ?_
  refine pv_ 10 16 (bl_ 17 8191) ?_
  refine pv_ 13 19 (bl_ 17 16383) ?_
  refine one_ (i := 14) (N := some 20) (bl_ 17 32767) rfl rfl (by kernel_rfl) (by decide) (fun K hK => ?_)
  refine value_ (v := .slice (some ⟨w11.heap.size, 0, none⟩) (wd ++ (⟨#[32]⟩ : ByteArray) ++ tx ++ (⟨#[10]⟩ : ByteArray) ++ d).size (grownCap w11 (wd ++ (⟨#[32]⟩ : ByteArray) ++ tx ++ (⟨#[10]⟩ : ByteArray) ++ d).size 0 5)) (w1 := Lib.bytesWorld w11 5 (wd ++ (⟨#[32]⟩ : ByteArray) ++ tx ++ (⟨#[10]⟩ : ByteArray) ++ d)) (by rfl) rfl ?_ ?_
  · have hcv := run_conv w11 (wd ++ (⟨#[32]⟩ : ByteArray) ++ tx ++ (⟨#[10]⟩ : ByteArray) ++ d)
    unfold execOp
    simp [Act.eval, hcv]
  refine hK.out _ _ (hHeld.next (conv_below w11 (wd ++ (⟨#[32]⟩ : ByteArray) ++ tx ++ (⟨#[10]⟩ : ByteArray) ++ d))) (fun hHeld => ?_)
  clear hK K
  refine norm_ (a' := ?_) ?_ ?_
  rotate_left
  · show Act.put _ (some 20) _ = _
    simp only [Act.put, List.setIfInBounds_toArray, List.set_cons_zero, List.set_cons_succ, i64_w, i32_w]
    rfl
  refine one_ (i := 15) (N := some 21) (bl_ 17 65535) rfl rfl (by kernel_rfl) (by decide) (fun K hK => ?_)
  refine goes_ Tryz.func57 (by kernel_rfl) rfl #[.slice (some ⟨w11.heap.size, 0, none⟩) (wd ++ (⟨#[32]⟩ : ByteArray) ++ tx ++ (⟨#[10]⟩ : ByteArray) ++ d).size (grownCap w11 (wd ++ (⟨#[32]⟩ : ByteArray) ++ tx ++ (⟨#[10]⟩ : ByteArray) ++ d).size 0 5)] (by rfl) rfl rfl (by simp only [List.map_toArray, List.map_cons, List.map_nil]; rfl) ?_
  with_reducible refine (name_at w11 (wd ++ (⟨#[32]⟩ : ByteArray) ++ tx ++ (⟨#[10]⟩ : ByteArray) ++ d) HSZ.out).mono ?_
  rintro e w12 ⟨rfl, hb12⟩
  refine ⟨_, rfl, ?_⟩
  refine hK.out _ _ (hHeld.next hb12) (fun hHeld => ?_)
  clear hK K
  refine norm_ (a' := ?_) ?_ ?_
  rotate_left
  · show Act.put _ (some 21) _ = _
    simp only [Act.put, List.setIfInBounds_toArray, List.set_cons_zero, List.set_cons_succ, i64_w, i32_w]
    rfl
  refine pv_ 16 2 (bl_ 17 131071) ?_
  refine done_ (by kernel_rfl) ?_
  have HB5 := As.mk hHeld.hb
  clear hHeld
  go_wp2_with (fail)
  go_ret
  rw [HP.out, ← HTXT.out]
  exact ⟨rfl, HB5.out⟩
end Go.Proofs.YtehmhfbfgniekaaGreatDoor.Ob

namespace Go.Proofs.YtehmhfbfgniekaaGreatDoor.Ob
set_option linter.unusedVariables false
set_option linter.unusedSimpArgs false
open Go Go.RowKit Go.Proofs.YtehmhfbfgniekaaGreatDoorW.PrintWords Go.Proofs.YtehmhfbfgniekaaGreatDoorW.PrintLast Go.Proofs.YtehmhfbfgniekaaGreatDoorW.PrintMore PObBase PObDoc PObGet
def kindI (m : Int) : Int := if m = 3 then 2 else if m = 1 ∨ m = 2 then 1 else 0
noncomputable def wantsL (k : Int) (d : ByteArray) : List Wnt := if rightB k d then (if k = 2 then (getTree d).1.map (fun x => ⟨x.f2, kindI x.f0⟩) else if k = 3 then ⟨(getChange d).1.f0, 2⟩ :: (getChange d).1.f1.map (fun s => ⟨s, 3⟩) else if k = 4 then [⟨(getLabel d).1.f0, (getLabel d).1.f1⟩] else []) else []
theorem Wp.below {w0 wr w' : World} {base bo : Nat} {acc : List Wnt} {ok : Nat → Prop} {v : Value} (h : Wp w0 base bo acc ok v wr) (hb : Below wr.heap.size wr w') : Wp w0 base bo acc ok v w' where
  hk := (hb.block bo (blk_lt h.hk)).trans h.hk
  hr := Kd.R_below h.hr hb
  hb := h.hb.trans (hb.mono (Nat.le_of_lt (blk_lt h.hk)))
  ho := fun k hk hne => (hb.block k (Nat.lt_of_lt_of_le hk h.hs)).trans (h.ho k hk hne)
  hs := Nat.le_trans h.hs hb.size
  hbo := h.hbo
theorem Wp.reset {w0 wr w' : World} {base bo g : Nat} {acc : List Wnt} {v : Value} (h : Wp w0 base bo acc (fun _ => True) v wr) (hb : Below wr.heap.size wr w') (hg : wr.heap.size ≤ g) : Wp w' base bo acc (fun k => ∀ ad : Addr, some (⟨g, 0, none⟩ : Addr) = some ad → k ≠ ad.block) v w' where
  hk := (h.below hb).hk
  hr := Kd.R_below (Kd.R_mono (Kd.R_bound h.hr) (fun k hk ad e => by
    injection e with e
    subst e
    have := hk.2.2.1
    show k ≠ g
    omega)) hb
  hb := Below.refl _ _
  ho := fun _ _ _ => rfl
  hs := (h.below hb).hs
  hbo := h.hbo
theorem Wp.comp {w0 w1 w2 : World} {base bo : Nat} {acc acc1 : List Wnt} {ok ok1 : Nat → Prop} {v v1 : Value} (h : Wp w0 base bo acc ok v w1) (h2 : Wp w1 base bo acc1 ok1 v1 w2) : Wp w0 base bo acc1 ok1 v1 w2 where
  hk := h2.hk
  hr := h2.hr
  hb := h.hb.trans h2.hb
  ho := fun k hk hne => (h2.ho k hk hne).trans (h.ho k hk hne)
  hs := h2.hs
  hbo := h2.hbo
theorem CI_at {w w' : World} {A : Option Addr} {n : Nat} {l : List It} (h : Kd.C k58 w A n l) (hb : ∀ ad, A = some ad → w'.heap[ad.block]? = w.heap[ad.block]?) : Kd.C k58 w' A n l := by
  obtain ⟨h1, h2, h3⟩ := h
  refine ⟨h1, h2, fun hp => ?_⟩
  obtain ⟨ad, e, hc⟩ := h3 hp
  refine ⟨ad, e, fun j p hj => ?_⟩
  obtain ⟨cs, hl, hk, hcells⟩ := hc j p hj
  have hcs := k58_open hk
  subst hcs
  refine ⟨_, hl, k58_mk w' p, fun i u hu => ?_⟩
  rw [← hcells i u hu]
  have := hb ad e
  unfold World.cell?
  have hbk : ∀ m, (ad.add m).block = ad.block := fun m => by unfold Addr.add; split <;> rfl
  rw [hbk, this]
theorem C_one (w : World) (s : ByteArray) : Kd.C Kd.string (w.alloc (.cells #[.string s] 9)) (some ⟨w.heap.size, 0, none⟩) 1 [s] := (Kd.R_reads' (own_one_s w w.heap.size (Nat.le_refl _) s)).2.2
theorem next_put (kind : Int) (s : ByteArray) (bo base : Nat) (acc : List Wnt) (v : Value) (W0 W : World) (h : Wp W0 base bo acc (fun _ => True) v W) (hl : acc.length + 1 ≤ 1000000) :
    Calls Tryz.prog 64 #[.int .i64 kind, .slice (some ⟨W.heap.size, 0, none⟩) 1 1, .pointer (some ⟨bo, 0, none⟩)] (W.alloc (.cells #[.string s] 9)) fun e w' => e = .returned (.tuple #[]) ∧ ∃ v', Wp W0 base bo (acc ++ [(⟨s, kind⟩ : Wnt)]) (fun _ => True) v' w' := by
  have hb : Below W.heap.size W (W.alloc (.cells #[.string s] 9)) := (Below.refl _ _).alloc (Nat.le_refl _) _
  refine (wants1_walk kind (some ⟨W.heap.size, 0, none⟩) 1 1 [s] bo base v acc _ (C_one W s) rfl (Nat.le_refl _) (h.reset hb (Nat.le_refl _)) (fun ad e => ?_) hl).mono ?_
  · injection e with e
    subst e
    refine ⟨?_, ?_⟩
    · have := blk_lt h.hk
      show W.heap.size ≠ bo
      omega
    · show W.heap.size < _
      rw [World.size_alloc]; omega
  · rintro e w' ⟨rfl, v', h'⟩
    exact ⟨rfl, v', (h.below hb).comp h'⟩
theorem many_put (kind : Int) (A : Option Addr) (n c : Nat) (ids : List ByteArray) (bo base : Nat) (acc : List Wnt) (v : Value) (W0 W : World) (h : Wp W0 base bo acc (fun _ => True) v W) (hC : Kd.C Kd.string W A n ids) (hn : ids.length = n) (hc : n ≤ c) (hA : ∀ ad, A = some ad → ad.block ≠ bo ∧ ad.block < base) (hl : acc.length + n ≤ 1000000) :
    Calls Tryz.prog 64 #[.int .i64 kind, .slice A n c, .pointer (some ⟨bo, 0, none⟩)] W fun e w' => e = .returned (.tuple #[]) ∧ ∃ v', Wp W0 base bo (acc ++ ids.map (fun s => (⟨s, kind⟩ : Wnt))) (fun _ => True) v' w' := by
  have h0 : Wp W base bo acc (fun k => ∀ ad, A = some ad → k ≠ ad.block) v W := ⟨h.hk, Kd.R_mono (Kd.R_bound h.hr) (fun k hk ad e => by have := hk.2.1; have := (hA ad e).2; omega), Below.refl _ _, fun _ _ _ => rfl, h.hs, h.hbo⟩
  refine (wants1_walk kind A n c ids bo base v acc W hC hn hc h0 (fun ad e => ⟨(hA ad e).1, Nat.lt_of_lt_of_le (hA ad e).2 h.hs⟩) hl).mono ?_
  rintro e w' ⟨rfl, v', h'⟩
  exact ⟨rfl, v', h.comp h'⟩
theorem Wp.first {W : World} {bo : Nat} (h : W.heap[bo]? = some (.cells #[.slice none 0 0] 40 (0, 0))) : Wp W W.heap.size bo [] (fun _ => True) (.slice none 0 0) W := ⟨h, Kd.R_nil _ _ _ _ _, Below.refl _ _, fun _ _ _ => rfl, Nat.le_refl _, blk_lt h⟩
set_option maxHeartbeats 16000000 in
set_option maxRecDepth 100000 in
theorem wants_walk (k : Int) (d : ByteArray) (hd : d.size ≤ 400000000) (w : World) (ht : Tbl w) :
    Calls Tryz.prog 47 #[.agg #[.int .i64 k, .string d]] w fun e w' => ∃ v, e = .returned v ∧ Kd.R k43 43 w' w.heap.size (fun _ => True) v (wantsL k d) ∧ Below w.heap.size w w' := by
  obtain ⟨wa, hwa⟩ : ∃ wa, w.alloc (.cells #[.int .i64 k, .string d] 30) = wa := ⟨_, rfl⟩
  have hsa : wa.heap.size = w.heap.size + 1 := by rw [← hwa, World.size_alloc]
  have hba : Below w.heap.size w wa := by rw [← hwa]; exact (Below.refl _ _).alloc (Nat.le_refl _) _
  have hka : wa.heap[w.heap.size]? = some (.cells #[.int .i64 k, .string d] 30 (0, 0)) := by rw [← hwa]; exact blk_new w _
  obtain ⟨w0, hw0⟩ : ∃ w0, wa.alloc (.cells #[.slice none 0 0] 40) = w0 := ⟨_, rfl⟩
  have hb0 : Below w.heap.size w w0 := by rw [← hw0]; exact hba.alloc hba.size _
  have hs0 : w0.heap.size = w.heap.size + 2 := by rw [← hw0, World.size_alloc, hsa]
  have hk0 : w0.heap[w.heap.size]? = some (.cells #[.int .i64 k, .string d] 30 (0, 0)) := by rw [← hw0]; exact ((Below.refl wa.heap.size wa).alloc (Nat.le_refl _) _).block _ (by omega) |>.trans hka
  have hk1 : w0.heap[w.heap.size + 1]? = some (.cells #[.slice none 0 0] 40 (0, 0)) := by rw [← hw0, ← hsa]; exact blk_new wa _
  have hd0 : w0.cell? ⟨w.heap.size, 0, none⟩ = some (.int .i64 k) := (blk_cell hk0 0).trans rfl
  have hd1 : w0.cell? ⟨w.heap.size, 1, none⟩ = some (.string d) := (blk_cell hk0 1).trans rfl
  have HTB : As (∀ w', Below w.heap.size w w' → Tbl w') := ⟨fun w' hb => ht.below hb⟩
  have HRT := As.mk (right_walk k d hd w0 (HTB.out _ hb0))
  have HB0 := As.mk hb0
  have HK0 := As.mk hk0
  have HK1 := As.mk hk1
  have HS0 := As.mk hs0
  have HDS := As.mk hd
  clear hba hka hb0 hk0 hk1 hs0 ht hd
  go_enter Tryz.func47, Tryz.ntmps47
  go_wp2_with (fail)
  refine HRT.out.mono ?_
  rintro e w1 ⟨rfl, hb1⟩
  have HB1 := As.mk hb1
  have HB01 := As.mk (HB0.out.trans (hb1.mono HB0.out.size))
  have HK11 : As (w1.heap[w.heap.size + 1]? = some (.cells #[.slice none 0 0] 40 (0, 0))) := ⟨(hb1.block _ (by rw [HS0.out]; omega)).trans HK1.out⟩
  have hd0 : w1.cell? ⟨w.heap.size, 0, none⟩ = some (.int .i64 k) := pw_cell_below hb1 hd0
  have hd1 : w1.cell? ⟨w.heap.size, 1, none⟩ = some (.string d) := pw_cell_below hb1 hd1
  have HS1 : As (w.heap.size + 2 ≤ w1.heap.size) := ⟨by rw [← HS0.out]; exact hb1.size⟩
  clear hb1 hwa hw0 hsa
  rcases hr : rightB k d with _ | _
  · have HP : As (wantsL k d = []) := ⟨by rw [wantsL, hr]; rfl⟩
    go_wp2_with (fail)
    go_ret
    rw [HP.out]
    exact ⟨_, rfl, Kd.R_nil _ _ _ _ _, HB01.out⟩
  obtain ⟨g1, g4, gs⟩ := rightB_kind hr
  rcases (show k = 1 ∨ k = 2 ∨ k = 3 ∨ k = 4 by omega) with rfl | rfl | rfl | rfl
  · have HP : As (wantsL 1 d = []) := ⟨by rw [wantsL, hr]; rfl⟩
    have hc2 : w1.cell? ⟨w.heap.size + 1, 0, none⟩ = some (.slice none 0 0) := (blk_cell HK11.out 0).trans rfl
    go_wp2_with (fail)
    go_ret
    rw [HP.out]
    exact ⟨_, rfl, Kd.R_nil _ _ _ _ _, HB01.out⟩
  · obtain ⟨l, hl⟩ : ∃ l, getTree d = (l, true) := by
      rw [rightB_2, Bool.and_eq_true] at hr
      exact ⟨(getTree d).1, Prod.ext rfl hr.2⟩
    have HP : As (wantsL 2 d = l.map (fun x => ⟨x.f2, kindI x.f0⟩)) := ⟨by rw [wantsL, hr, if_pos rfl, if_pos rfl, hl]⟩
    have hpt := (getTree_iff d l).1 hl
    have htb := (putTree_iff.1 hpt).1
    have HIT := As.mk (tree_items htb)
    have HLN : As (l.length ≤ 256) := ⟨(treeB_parts htb).2⟩
    obtain ⟨q, hq⟩ := (getT_ev d (by have := HDS.out; omega)).rounds
    rw [hl] at hq
    have HGT := As.mk (object_GetTree.calls q d l true w1 hq (HTB.out _ HB01.out))
    clear hpt htb hq hl
    go_wp2_with (fail)
    refine HGT.out.mono ?_
    rintro e w2 ⟨v0, rfl, hR, hb2⟩
    obtain ⟨Al, cl, rfl, hcl, hCl⟩ := Kd.R_reads hR
    have HBW2 := As.mk (HB01.out.trans (hb2.mono HB01.out.size))
    have HK12 : As (w2.heap[w.heap.size + 1]? = some (.cells #[.slice none 0 0] 40 (0, 0))) := ⟨(hb2.block _ (by have := HS1.out; omega)).trans HK11.out⟩
    have HAL : As (∀ ad, Al = some ad → ad.block ≠ w.heap.size + 1 ∧ ad.block < w2.heap.size) := ⟨fun ad e => by
      subst e
      have := (Kd.R_bound hR).1 ad.block rfl
      have h1 := this.2.1
      have h2 := this.2.2.1
      have h3 := HS1.out
      exact ⟨by omega, h2⟩⟩
    have HCL := As.mk hCl
    have HW2 := As.mk (Wp.first HK12.out)
    obtain ⟨n, hn⟩ : ∃ n, l.length = n := ⟨_, rfl⟩
    have HNN := As.mk hn
    rw [hn] at HCL HLN hcl ⊢
    have h256 := HLN.out
    clear hd0 hd1 hb2 hR hCl hn
    go_wp2_with (fail)
    go_loopw [30] (fun v30 wr => ∃ (i : Nat) (u : Value), v30 = .int .i64 i ∧ i ≤ n ∧ As (Wp w2 w2.heap.size (w.heap.size + 1) ((l.take i).map (fun x => (⟨x.f2, kindI x.f0⟩ : Wnt))) (fun _ => True) u wr)) (fun v30 _ => n - (intOf v30).toNat)
    case atStart => exact ⟨0, _, rfl, by omega, HW2⟩
    case round =>
      obtain ⟨i, u, rfl, hi, HW⟩ := hrel
      by_cases hlt : i < n
      · have hil : i < l.length := by rw [HNN.out]; exact hlt
        have hCr : Kd.C k58 wr Al n l := CI_at HCL.out (fun ad e => HW.out.ho _ (HAL.out ad e).2 (HAL.out ad e).1)
        obtain ⟨ad, rfl, h0, h1, h2⟩ := at_T58 hCr (i : Int) (by omega) (by omega)
        rw [Int.toNat_natCast] at h0 h1 h2
        obtain ⟨x, hx⟩ : ∃ x, rd_T58 l (i : Int) = x := ⟨_, rfl⟩
        have hxi : l[i]? = some x := rdI_at hil hx
        rw [hx] at h0 h1 h2
        have HX := As.mk hxi
        have hm := HIT.out x (List.mem_of_getElem? hxi)
        have hm1 := hm.1
        have hm3 := hm.2.1
        obtain ⟨W, hW⟩ : ∃ W, wr.alloc (.cells #[.int .i64 x.f0, .string x.f1, .string x.f2] 58) = W := ⟨_, rfl⟩
        have hWs : W.heap.size = wr.heap.size + 1 := by rw [← hW, World.size_alloc]
        have HWW := As.mk (HW.out.below (by rw [← hW]; exact (Below.refl wr.heap.size wr).alloc (Nat.le_refl _) _ : Below wr.heap.size wr W))
        have HPUT : As (∀ kd : Int, Calls Tryz.prog 64 #[.int .i64 kd, .slice (some ⟨wr.heap.size + 1, 0, none⟩) 1 1, .pointer (some ⟨w.heap.size + 1, 0, none⟩)] (W.alloc (.cells #[.string x.f2] 9)) fun e w' => e = .returned (.tuple #[]) ∧ ∃ v', Wp w2 w2.heap.size (w.heap.size + 1) ((l.take i).map (fun x => (⟨x.f2, kindI x.f0⟩ : Wnt)) ++ [(⟨x.f2, kd⟩ : Wnt)]) (fun _ => True) v' w') := ⟨fun kd => by
          have := next_put kd x.f2 (w.heap.size + 1) w2.heap.size _ u w2 W HWW.out (by rw [List.length_map, List.length_take]; omega)
          rw [hWs] at this
          exact this⟩
        have HSTEP : As ((l.take (i + 1)).map (fun x => (⟨x.f2, kindI x.f0⟩ : Wnt)) = (l.take i).map (fun x => (⟨x.f2, kindI x.f0⟩ : Wnt)) ++ [(⟨x.f2, kindI x.f0⟩ : Wnt)]) := ⟨by rw [List.take_add_one, HX.out, List.map_append]; rfl⟩
        have HWE := As.mk hW
        clear hx hxi hil hCr hm hW hWs
        rcases (show x.f0 = 1 ∨ x.f0 = 2 ∨ x.f0 = 3 by omega) with hf | hf | hf
        · rw [hf] at h0 HWE
          have HSP : As (kindI x.f0 = 1) := ⟨by rw [hf]; rfl⟩
          have hW := HWE.out
          have hWK : W.heap[wr.heap.size]? = some (.cells #[.int .i64 1, .string x.f1, .string x.f2] 58 (0, 0)) := by rw [← hW]; exact blk_new wr _
          have hwc0 : W.cell? ⟨wr.heap.size, 0, none⟩ = some (.int .i64 1) := (blk_cell hWK 0).trans rfl
          have hwc2 : W.cell? ⟨wr.heap.size, 2, none⟩ = some (.string x.f2) := (blk_cell hWK 2).trans rfl
          have hWs : W.heap.size = wr.heap.size + 1 := by rw [← hW, World.size_alloc]
          clear hWK hf hm1 hm3
          go_wp2_with (fail)
          refine (HPUT.out _).mono ?_
          rintro e w5 ⟨rfl, v5, h5⟩
          rw [← HSP.out, ← HSTEP.out] at h5
          have H5 := As.mk h5
          clear h5 hW hwc0 hwc2 hWs h0 h1 h2
          go_wp2_with (fail)
          exact ⟨⟨i + 1, v5, by go_num, by omega, H5⟩, by simp [intOf]; omega⟩
        · rw [hf] at h0 HWE
          have HSP : As (kindI x.f0 = 1) := ⟨by rw [hf]; rfl⟩
          have hW := HWE.out
          have hWK : W.heap[wr.heap.size]? = some (.cells #[.int .i64 2, .string x.f1, .string x.f2] 58 (0, 0)) := by rw [← hW]; exact blk_new wr _
          have hwc0 : W.cell? ⟨wr.heap.size, 0, none⟩ = some (.int .i64 2) := (blk_cell hWK 0).trans rfl
          have hwc2 : W.cell? ⟨wr.heap.size, 2, none⟩ = some (.string x.f2) := (blk_cell hWK 2).trans rfl
          have hWs : W.heap.size = wr.heap.size + 1 := by rw [← hW, World.size_alloc]
          clear hWK hf hm1 hm3
          go_wp2_with (fail)
          refine (HPUT.out _).mono ?_
          rintro e w5 ⟨rfl, v5, h5⟩
          rw [← HSP.out, ← HSTEP.out] at h5
          have H5 := As.mk h5
          clear h5 hW hwc0 hwc2 hWs h0 h1 h2
          go_wp2_with (fail)
          exact ⟨⟨i + 1, v5, by go_num, by omega, H5⟩, by simp [intOf]; omega⟩
        · rw [hf] at h0 HWE
          have HSP : As (kindI x.f0 = 2) := ⟨by rw [hf]; rfl⟩
          have hW := HWE.out
          have hWK : W.heap[wr.heap.size]? = some (.cells #[.int .i64 3, .string x.f1, .string x.f2] 58 (0, 0)) := by rw [← hW]; exact blk_new wr _
          have hwc0 : W.cell? ⟨wr.heap.size, 0, none⟩ = some (.int .i64 3) := (blk_cell hWK 0).trans rfl
          have hwc2 : W.cell? ⟨wr.heap.size, 2, none⟩ = some (.string x.f2) := (blk_cell hWK 2).trans rfl
          have hWs : W.heap.size = wr.heap.size + 1 := by rw [← hW, World.size_alloc]
          clear hWK hf hm1 hm3
          go_wp2_with (fail)
          refine (HPUT.out _).mono ?_
          rintro e w5 ⟨rfl, v5, h5⟩
          rw [← HSP.out, ← HSTEP.out] at h5
          have H5 := As.mk h5
          clear h5 hW hwc0 hwc2 hWs h0 h1 h2
          go_wp2_with (fail)
          exact ⟨⟨i + 1, v5, by go_num, by omega, H5⟩, by simp [intOf]; omega⟩
      · have hin : i = n := by omega
        subst hin
        have hfin := HW.out
        rw [List.take_of_length_le (by rw [HNN.out]; exact Nat.le_refl _), ← HP.out] at hfin
        have HFIN := As.mk hfin
        have hc2 : wr.cell? ⟨w.heap.size + 1, 0, none⟩ = some u := (blk_cell hfin.hk 0).trans rfl
        clear hfin
        go_wp2_with (fail)
        go_ret
        exact ⟨_, rfl, Kd.R_lower HFIN.out.hr HBW2.out.size, HBW2.out.trans (HFIN.out.hb.mono (Nat.le_succ _))⟩
  · go_wp2_with (fail)
    refine (getChange_walk d HDS.out w1).mono ?_
    rintro e w2 ⟨v1, rfl, hR1, hb2⟩
    obtain ⟨cm, f, hcf⟩ : ∃ cm f, getChange d = (cm, f) := ⟨_, _, rfl⟩
    rw [hcf] at hR1 ⊢
    have HP : As (wantsL 3 d = ⟨cm.f0, 2⟩ :: cm.f1.map (fun s => ⟨s, 3⟩)) := ⟨by rw [wantsL, hr, if_pos rfl, if_neg (by decide), if_pos rfl, hcf]⟩
    have h8 : cm.f1.length ≤ 8 := by
      rw [rightB_3, hcf, Bool.and_eq_true] at hr
      have hf : f = true := hr.2
      rw [hf] at hcf
      exact (change_parts (putChange_iff.1 ((getChange_iff d cm).1 hcf)).1).2.2.1
    obtain ⟨Ap, cp, rfl, hcp, hCp⟩ := Kd.R_reads hR1
    have HAP : As (∀ ad, Ap = some ad → ad.block ≠ w.heap.size + 1 ∧ ad.block < w2.heap.size) := ⟨fun ad e => by
      subst e
      have := (Kd.R_bound hR1).1 ad.block rfl
      have h1 := this.2.1
      have h2 := this.2.2.1
      have h3 := HS1.out
      exact ⟨by omega, h2⟩⟩
    have HCP := As.mk hCp
    have HBW2 := As.mk (HB01.out.trans (hb2.mono HB01.out.size))
    have HK12 : As (w2.heap[w.heap.size + 1]? = some (.cells #[.slice none 0 0] 40 (0, 0))) := ⟨(hb2.block _ (by have := HS1.out; omega)).trans HK11.out⟩
    obtain ⟨W, hW⟩ : ∃ W, w2.alloc (.cells #[.string cm.f0, .slice Ap cm.f1.length cp, .string cm.f2, .string cm.f3] 71) = W := ⟨_, rfl⟩
    have hWs : W.heap.size = w2.heap.size + 1 := by rw [← hW, World.size_alloc]
    have hWb : Below w2.heap.size w2 W := by rw [← hW]; exact (Below.refl _ _).alloc (Nat.le_refl _) _
    have HWK : As (W.heap[w2.heap.size]? = some (.cells #[.string cm.f0, .slice Ap cm.f1.length cp, .string cm.f2, .string cm.f3] 71 (0, 0))) := ⟨by rw [← hW]; exact blk_new w2 _⟩
    have hWk1 : W.heap[w.heap.size + 1]? = some (.cells #[.slice none 0 0] 40 (0, 0)) := (hWb.block _ (blk_lt HK12.out)).trans HK12.out
    have HPUT := As.mk (next_put 2 cm.f0 (w.heap.size + 1) W.heap.size [] (.slice none 0 0) W W (Wp.first hWk1) (by simp))
    rw [hWs] at HPUT
    have HWB := As.mk hWb
    have HWS := As.mk hWs
    have hwc0 : W.cell? ⟨w2.heap.size, 0, none⟩ = some (.string cm.f0) := (blk_cell HWK.out 0).trans rfl
    clear hd0 hd1 hb2 hR1 hCp hWb hWk1
    go_wp2_with (fail)
    refine HPUT.out.mono ?_
    rintro e w3 ⟨rfl, v3, h3⟩
    have HW3 := As.mk h3
    have hk3 : w3.heap[w2.heap.size]? = some (.cells #[.string cm.f0, .slice Ap cm.f1.length cp, .string cm.f2, .string cm.f3] 71 (0, 0)) := (h3.ho _ (by omega) (by have := blk_lt HK12.out; omega)).trans HWK.out
    have hc1 : w3.cell? ⟨w2.heap.size, 1, none⟩ = some (.slice Ap cm.f1.length cp) := (blk_cell hk3 1).trans rfl
    clear h3 hk3 hW hWs hwc0
    go_wp2_with (fail)
    have hC3 : Kd.C Kd.string w3 Ap cm.f1.length cm.f1 := C_at HCP.out (fun ad e => ((HW3.out.ho _ (by have := (HAP.out ad e).2; omega) (HAP.out ad e).1).trans (HWB.out.block _ (HAP.out ad e).2)))
    refine (many_put 3 Ap cm.f1.length cp cm.f1 (w.heap.size + 1) (w2.heap.size + 1) _ v3 W w3 HW3.out hC3 rfl hcp (fun ad e => ⟨(HAP.out ad e).1, by have := (HAP.out ad e).2; omega⟩) (by simp; omega)).mono ?_
    rintro e w4 ⟨rfl, v4, h4⟩
    have HW4 := As.mk h4
    have hc4 : w4.cell? ⟨w.heap.size + 1, 0, none⟩ = some v4 := (blk_cell h4.hk 0).trans rfl
    clear h4 hC3 hc1
    go_wp2_with (fail)
    go_ret
    rw [HP.out]
    exact ⟨_, rfl, Kd.R_lower HW4.out.hr (by have := HBW2.out.size; omega), HBW2.out.trans ((HWB.out.mono HBW2.out.size).trans (HW4.out.hb.mono (Nat.le_succ _)))⟩
  · go_wp2_with (fail)
    refine (getLabel_walk d HDS.out w1).mono ?_
    rintro e w2 ⟨rfl, hb2⟩
    obtain ⟨lb, f, hlf⟩ : ∃ lb f, getLabel d = (lb, f) := ⟨_, _, rfl⟩
    rw [hlf]
    have HP : As (wantsL 4 d = [⟨lb.f0, lb.f1⟩]) := ⟨by rw [wantsL, hr, if_pos rfl, if_neg (by decide), if_neg (by decide), if_pos rfl, hlf]⟩
    have HBW2 := As.mk (HB01.out.trans (hb2.mono HB01.out.size))
    have HK12 : As (w2.heap[w.heap.size + 1]? = some (.cells #[.slice none 0 0] 40 (0, 0))) := ⟨(hb2.block _ (by have := HS1.out; omega)).trans HK11.out⟩
    obtain ⟨W, hW⟩ : ∃ W, w2.alloc (.cells #[.string lb.f0, .int .i64 lb.f1, .string lb.f2, .string lb.f3] 75) = W := ⟨_, rfl⟩
    have hWs : W.heap.size = w2.heap.size + 1 := by rw [← hW, World.size_alloc]
    have hWb : Below w2.heap.size w2 W := by rw [← hW]; exact (Below.refl _ _).alloc (Nat.le_refl _) _
    have hWk1 : W.heap[w.heap.size + 1]? = some (.cells #[.slice none 0 0] 40 (0, 0)) := (hWb.block _ (blk_lt HK12.out)).trans HK12.out
    have HPUT := As.mk (next_put lb.f1 lb.f0 (w.heap.size + 1) W.heap.size [] (.slice none 0 0) W W (Wp.first hWk1) (by simp))
    rw [hWs] at HPUT
    have HWB := As.mk hWb
    have hWK : W.heap[w2.heap.size]? = some (.cells #[.string lb.f0, .int .i64 lb.f1, .string lb.f2, .string lb.f3] 75 (0, 0)) := by rw [← hW]; exact blk_new w2 _
    have hwc0 : W.cell? ⟨w2.heap.size, 0, none⟩ = some (.string lb.f0) := (blk_cell hWK 0).trans rfl
    have hwc1 : W.cell? ⟨w2.heap.size, 1, none⟩ = some (.int .i64 lb.f1) := (blk_cell hWK 1).trans rfl
    clear hd0 hd1 hb2 hWb hWk1 hWK
    go_wp2_with (fail)
    refine HPUT.out.mono ?_
    rintro e w3 ⟨rfl, v3, h3⟩
    have HW3 := As.mk h3
    have hc4 : w3.cell? ⟨w.heap.size + 1, 0, none⟩ = some v3 := (blk_cell h3.hk 0).trans rfl
    clear h3 hW hWs hwc0 hwc1
    go_wp2_with (fail)
    go_ret
    rw [HP.out]
    exact ⟨_, rfl, Kd.R_lower HW3.out.hr (by have := HBW2.out.size; omega), HBW2.out.trans ((HWB.out.mono HBW2.out.size).trans (HW3.out.hb.mono (Nat.le_succ _)))⟩
end Go.Proofs.YtehmhfbfgniekaaGreatDoor.Ob

namespace Go.Proofs.YtehmhfbfgniekaaGreatDoor.Wk
set_option linter.unusedVariables false
set_option linter.unusedSimpArgs false
open Go Go.RowKit Go.Proofs.YtehmhfbfgniekaaGreatDoorW.PrintWords Go.Proofs.YtehmhfbfgniekaaGreatDoorW.PrintLast Go.Proofs.YtehmhfbfgniekaaGreatDoorW.PrintMore Ob PObBase PObDoc PWkB
noncomputable def wantsN (l : List Hd) (s : ByteArray) : List Wnt := match fnd l s with | some o => wantsL o.f0 o.f1 | none => []
noncomputable def nxt (l : List Hd) (s : ByteArray) : List ByteArray := (wantsN l s).map (·.f0)
theorem nxt_key (l : List Hd) (s : ByteArray) : s ∈ l.map (·.f0) ∨ nxt l s = [] := by
  by_cases h : s ∈ l.map (·.f0)
  · exact .inl h
  · right
    unfold nxt wantsN
    cases hf : fnd l s with
    | none => rfl
    | some o => exact absurd (fnd_some.1 (by rw [hf]; rfl)) h
def IsT (l : List Hd) (tips : List ByteArray) (s : ByteArray) : Prop := Reach (nxt l) tips s ∧ (fnd l s).isSome = true
def IsL (l : List Hd) (tips : List ByteArray) (s : ByteArray) : Prop := Reach (nxt l) tips s ∧ (fnd l s).isSome = false
noncomputable def thereL (l : List Hd) (tips : List ByteArray) : List ByteArray := riseS (IsT l tips)
noncomputable def lackL (l : List Hd) (tips : List ByteArray) : List ByteArray := riseS (IsL l tips)
theorem told_ex (l : List Hd) (tips : List ByteArray) : ∃ xs : List ByteArray, ∀ s, s ∈ xs ↔ Reach (nxt l) tips s :=
  reach_list (l.map (·.f0)) (nxt_key l) _ [] tips (Nat.le_refl _) Sn.first
theorem rises_there (l : List Hd) (tips : List ByteArray) : Rises (IsT l tips) (thereL l tips) := by
  obtain ⟨xs, h⟩ := told_ex l tips
  exact rises_of (xs.filter (fun s => (fnd l s).isSome)) (fun s => by rw [List.mem_filter, h]; exact Iff.rfl)
theorem rises_lack (l : List Hd) (tips : List ByteArray) : Rises (IsL l tips) (lackL l tips) := by
  obtain ⟨xs, h⟩ := told_ex l tips
  exact rises_of (xs.filter (fun s => !(fnd l s).isSome)) (fun s => by rw [List.mem_filter, h]; simp [IsL])
theorem there_mem {l : List Hd} {tips : List ByteArray} {s : ByteArray} : s ∈ thereL l tips ↔ Reach (nxt l) tips s ∧ (fnd l s).isSome = true := (rises_there l tips).mem s
theorem lack_mem {l : List Hd} {tips : List ByteArray} {s : ByteArray} : s ∈ lackL l tips ↔ Reach (nxt l) tips s ∧ (fnd l s).isSome = false := (rises_lack l tips).mem s
def Odd (l : List Hd) (tips : List ByteArray) : Prop := ∃ s, Reach (nxt l) tips s ∧ ∃ x ∈ wantsN l s, ((fnd l x.f0).getD z30).f0 ≠ x.f1
open Classical in
noncomputable def soundI (l : List Hd) (tips : List ByteArray) : Int := if lackL l tips ≠ [] then 51 else if Odd l tips then 3 else 0
end Go.Proofs.YtehmhfbfgniekaaGreatDoor.Wk

namespace Go.Proofs.YtehmhfbfgniekaaGreatDoor.Ob
set_option linter.unusedVariables false
set_option linter.unusedSimpArgs false
open Go Go.RowKit Go.Proofs.YtehmhfbfgniekaaGreatDoorW.PrintWords Go.Proofs.YtehmhfbfgniekaaGreatDoorW.PrintLast Go.Proofs.YtehmhfbfgniekaaGreatDoorW.PrintMore PObBase PObDoc
theorem rword_walk (k : Int) (w : World) : Calls Tryz.prog 42 #[.int .i64 k] w fun e w' => e = .returned (.string (bs (wordL k))) ∧ Below w.heap.size w w' :=
  (r04_Word.calls k _ w (word_eq k)).mono fun e w' h => ⟨h.1, h.2.below⟩
theorem rname_at (W : World) (s : ByteArray) (hs : s.size ≤ 1099511627776) : Calls Tryz.prog 41 #[.slice (some ⟨W.heap.size, 0, none⟩) s.size (grownCap W s.size 0 5)] (Lib.bytesWorld W 5 s) fun e w' => e = .returned (.string (nameS s)) ∧ Below (Lib.bytesWorld W 5 s).heap.size (Lib.bytesWorld W 5 s) w' := by
  have h := Dg.rname_calls (some ⟨W.heap.size, 0, none⟩) (grownCap W s.size 0 5) (bytesOf s) (Lib.bytesWorld W 5 s) (conv_C W s hs) (by rw [bytesOf_length]; exact grownCap_ge _ _ _ _) (by rw [bytesOf_length]; exact hs) (bytesOf_8 s)
  rw [bytesOf_length] at h
  exact h
set_option maxHeartbeats 16000000 in
set_option maxRecDepth 100000 in
theorem rid_of (k : Int) (d : ByteArray) (hd : d.size ≤ 400000000) (w : World) (hRT : ∀ w : World, Calls Tryz.prog 35 #[.agg #[.int .i64 k, .string d]] w fun e w' => e = .returned (.bool (rightB k d)) ∧ Below w.heap.size w w') :
    Calls Tryz.prog 28 #[.agg #[.int .i64 k, .string d]] w fun e w' => e = .returned (.string (idS k d)) ∧ Below w.heap.size w w' := by
  obtain ⟨w0, hw0⟩ : ∃ w0, w.alloc (.cells #[.int .i64 k, .string d] 30) = w0 := ⟨_, rfl⟩
  have hb0 : Below w.heap.size w w0 := by rw [← hw0]; exact (Below.refl _ _).alloc (Nat.le_refl _) _
  have hnew : w0.heap[w.heap.size]? = some (.cells #[.int .i64 k, .string d] 30 (0, 0)) := by rw [← hw0]; exact blk_new w _
  have hd0 : w0.cell? ⟨w.heap.size, 0, none⟩ = some (.int .i64 k) := (blk_cell hnew 0).trans rfl
  have hd1 : w0.cell? ⟨w.heap.size, 1, none⟩ = some (.string d) := (blk_cell hnew 1).trans rfl
  have HBX0 : As (Bx w w.heap.size #[.int .i64 k, .string d] 30 w0) := ⟨⟨hb0, hnew⟩⟩
  have HRT := As.mk (hRT w0)
  have HDS := As.mk hd
  clear hb0 hnew hd hRT
  go_enter Tryz.func28, Tryz.ntmps28
  go_wp2_with (fail)
  refine HRT.out.mono ?_
  rintro e w1 ⟨rfl, hb1⟩
  have HBX1 := As.mk (HBX0.out.next hb1)
  clear hb1 hd0 hd1
  rcases hr : rightB k d with _ | _
  · have HP : As (idS k d = ⟨#[]⟩) := ⟨by rw [idS, hr]; rfl⟩
    go_wp2_with (fail)
    go_ret
    rw [HP.out]
    exact ⟨rfl, HBX1.out.hb⟩
  have HP : As (idS k d = nameS (idT k d)) := ⟨by rw [idS, hr]; rfl⟩
  obtain ⟨g1, g4, gs⟩ := rightB_kind hr
  obtain ⟨wd, hwd⟩ : ∃ wd, bs (wordL k) = wd := ⟨_, rfl⟩
  have hws : wd.size ≤ 6 := by rw [← hwd, bs_size]; exact word_size _
  have HWORD : As (∀ W : World, Calls Tryz.prog 42 #[.int .i64 k] W fun e w' => e = .returned (.string wd) ∧ Below W.heap.size W w') := ⟨fun W => by rw [← hwd]; exact rword_walk k W⟩
  obtain ⟨tx, htx⟩ : ∃ tx, textS (d.size : Int) = tx := ⟨_, rfl⟩
  have hts : tx.size ≤ 21 := by rw [← htx]; exact textS_size _ gs
  have HTXT : As (wd ++ (⟨#[32]⟩ : ByteArray) ++ tx ++ (⟨#[10]⟩ : ByteArray) ++ d = idT k d) := ⟨by rw [← hwd, ← htx]; rfl⟩
  have HSZ : As ((wd ++ (⟨#[32]⟩ : ByteArray) ++ tx ++ (⟨#[10]⟩ : ByteArray) ++ d).size ≤ 1099511627776) := ⟨by
    simp only [ByteArray.size_append]
    have e1 : (⟨#[32]⟩ : ByteArray).size = 1 := rfl
    have e2 : (⟨#[10]⟩ : ByteArray).size = 1 := rfl
    omega⟩
  have HTX := As.mk htx
  have z1 : ¬ 9223372036854775807 < wd.size + 1 := by omega
  have z2 : ¬ 9223372036854775807 < wd.size + 1 + tx.size := by omega
  have z3 : ¬ 9223372036854775807 < wd.size + 1 + tx.size + 1 := by omega
  have z4 : ¬ 9223372036854775807 < wd.size + 1 + tx.size + 1 + d.size := by omega
  have HBX : As (Bx w w.heap.size #[.int .i64 k, .string d] 30 w1.drew) := ⟨⟨below_drew HBX1.out.hb, HBX1.out.hk⟩⟩
  clear hr g1 g4 gs hws hwd htx hts
  go_wp2_with (fail)
  refine start_ (n := 16) (S := Bx w w.heap.size #[.int .i64 k, .string d] 30) (ds := []) (bl_ 16 0) (by kernel_rfl) rfl rfl (HBX.out) (fun hHeld => ?_)
  refine pv_ 0 6 (bl_ 16 1) ?_
  refine pv_ 4 10 (bl_ 16 17) ?_
  refine pv_ 10 16 (bl_ 16 1041) ?_
  refine tk_ 1 7 (bl_ 16 1043) hHeld (hv := by intro w' s0; have hc := blk_cell s0.hk 0; go_simp; with_reducible rfl) (h := ?_)
  refine tk_ 5 11 (bl_ 16 1075) hHeld (hv := by intro w' s0; have hc := blk_cell s0.hk 1; go_simp; with_reducible rfl) (h := ?_)
  refine pv_ 6 12 (bl_ 16 1139) ?_
  refine tk_ 11 17 (bl_ 16 3187) hHeld (hv := by intro w' s0; have hc := blk_cell s0.hk 1; go_simp; with_reducible rfl) (h := ?_)
  refine one_ (i := 2) (N := some 8) (bl_ 16 3191) rfl rfl (by kernel_rfl) (by decide) (fun K hK => ?_)
  refine goes_ Tryz.func42 (by kernel_rfl) rfl #[.int .i64 k] (by rfl) rfl rfl (by simp only [List.map_toArray, List.map_cons, List.map_nil]; rfl) ?_
  with_reducible refine (HWORD.out _).mono ?_
  rintro e w10 ⟨rfl, hb10⟩
  refine ⟨_, rfl, ?_⟩
  refine hK.out _ _ (hHeld.next hb10) (fun hHeld => ?_)
  clear hK K
  refine norm_ (a' := ?_) ?_ ?_
  rotate_left
  · show Act.put _ (some 8) _ = _
    simp only [Act.put, List.setIfInBounds_toArray, List.set_cons_zero, List.set_cons_succ, i64_w, i32_w]
    rfl
  refine pv_ 3 9 (bl_ 16 3199) ?_
  refine one_ (i := 7) (N := some 13) (bl_ 16 3327) rfl rfl (by kernel_rfl) (by decide) (fun K hK => ?_)
  refine goes_ Tryz.func43 (by kernel_rfl) rfl #[.int .i64 (d.size : Int)] (by rfl) rfl rfl (by simp only [List.map_toArray, List.map_cons, List.map_nil]; rfl) ?_
  with_reducible refine (rtext_walk (d.size : Int) (by have := HDS.out; omega) _).mono ?_
  rintro e w11 ⟨rfl, hb11⟩
  refine ⟨_, rfl, ?_⟩
  rw [HTX.out]
  refine hK.out _ _ (hHeld.next hb11) (fun hHeld => ?_)
  clear hK K
  refine norm_ (a' := ?_) ?_ ?_
  rotate_left
  · show Act.put _ (some 13) _ = _
    simp only [Act.put, List.setIfInBounds_toArray, List.set_cons_zero, List.set_cons_succ, i64_w, i32_w]
    rfl
  refine pv_ 8 14 (bl_ 16 3583) ?_
  refine pv_ 9 15 (bl_ 16 4095) ?_
  refine pv_ 12 18 (bl_ 16 8191) ?_
  refine one_ (i := 13) (N := some 19) (bl_ 16 16383) rfl rfl (by kernel_rfl) (by decide) (fun K hK => ?_)
  refine value_ (v := .slice (some ⟨w11.heap.size, 0, none⟩) (wd ++ (⟨#[32]⟩ : ByteArray) ++ tx ++ (⟨#[10]⟩ : ByteArray) ++ d).size (grownCap w11 (wd ++ (⟨#[32]⟩ : ByteArray) ++ tx ++ (⟨#[10]⟩ : ByteArray) ++ d).size 0 5)) (w1 := Lib.bytesWorld w11 5 (wd ++ (⟨#[32]⟩ : ByteArray) ++ tx ++ (⟨#[10]⟩ : ByteArray) ++ d)) (by rfl) rfl ?_ ?_
  · have hcv := run_conv w11 (wd ++ (⟨#[32]⟩ : ByteArray) ++ tx ++ (⟨#[10]⟩ : ByteArray) ++ d)
    unfold execOp
    simp [Act.eval, hcv]
  refine hK.out _ _ (hHeld.next (conv_below w11 (wd ++ (⟨#[32]⟩ : ByteArray) ++ tx ++ (⟨#[10]⟩ : ByteArray) ++ d))) (fun hHeld => ?_)
  clear hK K
  refine norm_ (a' := ?_) ?_ ?_
  rotate_left
  · show Act.put _ (some 19) _ = _
    simp only [Act.put, List.setIfInBounds_toArray, List.set_cons_zero, List.set_cons_succ, i64_w, i32_w]
    rfl
  refine one_ (i := 14) (N := some 20) (bl_ 16 32767) rfl rfl (by kernel_rfl) (by decide) (fun K hK => ?_)
  refine goes_ Tryz.func41 (by kernel_rfl) rfl #[.slice (some ⟨w11.heap.size, 0, none⟩) (wd ++ (⟨#[32]⟩ : ByteArray) ++ tx ++ (⟨#[10]⟩ : ByteArray) ++ d).size (grownCap w11 (wd ++ (⟨#[32]⟩ : ByteArray) ++ tx ++ (⟨#[10]⟩ : ByteArray) ++ d).size 0 5)] (by rfl) rfl rfl (by simp only [List.map_toArray, List.map_cons, List.map_nil]; rfl) ?_
  with_reducible refine (rname_at w11 (wd ++ (⟨#[32]⟩ : ByteArray) ++ tx ++ (⟨#[10]⟩ : ByteArray) ++ d) HSZ.out).mono ?_
  rintro e w12 ⟨rfl, hb12⟩
  refine ⟨_, rfl, ?_⟩
  refine hK.out _ _ (hHeld.next hb12) (fun hHeld => ?_)
  clear hK K
  refine norm_ (a' := ?_) ?_ ?_
  rotate_left
  · show Act.put _ (some 20) _ = _
    simp only [Act.put, List.setIfInBounds_toArray, List.set_cons_zero, List.set_cons_succ, i64_w, i32_w]
    rfl
  refine pv_ 15 2 (bl_ 16 65535) ?_
  refine done_ (by kernel_rfl) ?_
  have HB5 := As.mk hHeld.hb
  clear hHeld
  go_wp2_with (fail)
  go_ret
  rw [HP.out, ← HTXT.out]
  exact ⟨rfl, HB5.out⟩
end Go.Proofs.YtehmhfbfgniekaaGreatDoor.Ob

namespace Go.Proofs.YtehmhfbfgniekaaGreatDoor.Ob
set_option linter.unusedVariables false
set_option linter.unusedSimpArgs false
open Go Go.RowKit Go.Proofs.YtehmhfbfgniekaaGreatDoorW.PrintWords Go.Proofs.YtehmhfbfgniekaaGreatDoorW.PrintLast Go.Proofs.YtehmhfbfgniekaaGreatDoorW.PrintMore PObBase PObDoc PObGet PObRt
def wantI (x : It) : Wnt := ⟨x.f2, kindI x.f0⟩
theorem tree_of {d : ByteArray} (h : rightB 2 d = true) : ∃ l, getTree d = (l, true) ∧ treeB l = true ∧ d = treeT l := by
  rw [rightB_2, Bool.and_eq_true] at h
  have hg : getTree d = ((getTree d).1, true) := Prod.ext rfl h.2
  obtain ⟨a, b⟩ := putTree_iff.1 ((getTree_iff d _).1 hg)
  exact ⟨_, hg, a, b⟩
theorem change_of {d : ByteArray} (h : rightB 3 d = true) : ∃ c, getChange d = (c, true) ∧ changeB c = true ∧ d = bs (changeL c) := by
  rw [rightB_3, Bool.and_eq_true] at h
  have hg : getChange d = ((getChange d).1, true) := Prod.ext rfl h.2
  obtain ⟨a, b⟩ := putChange_iff.1 ((getChange_iff d _).1 hg)
  exact ⟨_, hg, a, b⟩
theorem label_of {d : ByteArray} (h : rightB 4 d = true) : ∃ c, getLabel d = (c, true) ∧ labelB c = true ∧ d = bs (labelL c) := by
  rw [rightB_4, Bool.and_eq_true] at h
  have hg : getLabel d = ((getLabel d).1, true) := Prod.ext rfl h.2
  obtain ⟨a, b⟩ := putLabel_iff.1 ((getLabel_iff d _).1 hg)
  exact ⟨_, hg, a, b⟩
theorem wants_1 (d : ByteArray) : wantsL 1 d = [] := by unfold wantsL; split <;> rfl
theorem wants_2 {d : ByteArray} {l : List It} (h : rightB 2 d = true) (hl : getTree d = (l, true)) : wantsL 2 d = l.map wantI := by rw [wantsL, h, if_pos rfl, if_pos rfl, hl]; rfl
theorem wants_3 {d : ByteArray} {c : Chg} (h : rightB 3 d = true) (hl : getChange d = (c, true)) : wantsL 3 d = ⟨c.f0, 2⟩ :: c.f1.map (fun s => ⟨s, 3⟩) := by rw [wantsL, h, if_pos rfl, if_neg (by decide), if_pos rfl, hl]
theorem wants_4 {d : ByteArray} {c : Lab} (h : rightB 4 d = true) (hl : getLabel d = (c, true)) : wantsL 4 d = [⟨c.f0, c.f1⟩] := by rw [wantsL, h, if_pos rfl, if_neg (by decide), if_neg (by decide), if_pos rfl, hl]
theorem wants_no {k : Int} {d : ByteArray} (h : rightB k d = false) : wantsL k d = [] := by rw [wantsL, h]; rfl
theorem kind_cases {k : Int} {d : ByteArray} (h : rightB k d = true) : k = 1 ∨ k = 2 ∨ k = 3 ∨ k = 4 := by
  have := rightB_kind h
  omega
theorem wants_len (k : Int) (d : ByteArray) : (wantsL k d).length ≤ 256 := by
  cases h : rightB k d with
  | false => rw [wants_no h]; exact Nat.zero_le _
  | true =>
    rcases kind_cases h with rfl | rfl | rfl | rfl
    · rw [wants_1]; exact Nat.zero_le _
    · obtain ⟨l, hl, ht, _⟩ := tree_of h
      rw [wants_2 h hl, List.length_map]
      exact (treeB_parts ht).2
    · obtain ⟨c, hc, ht, _⟩ := change_of h
      rw [wants_3 h hc, List.length_cons, List.length_map]
      have := (change_parts ht).2.2.1
      omega
    · obtain ⟨c, hc, ht, _⟩ := label_of h
      rw [wants_4 h hc]; show 1 ≤ 256; decide
theorem wants_ok {k : Int} {d : ByteArray} (h : rightB k d = true) : ∀ x ∈ wantsL k d, nmB x.f0 = true ∧ 1 ≤ x.f1 ∧ x.f1 ≤ 4 := by
  intro x hx
  rcases kind_cases h with rfl | rfl | rfl | rfl
  · rw [wants_1] at hx; cases hx
  · obtain ⟨l, hl, ht, _⟩ := tree_of h
    rw [wants_2 h hl] at hx
    obtain ⟨y, hy, rfl⟩ := List.mem_map.1 hx
    obtain ⟨h1, h3, _, hn⟩ := tree_items ht y hy
    refine ⟨hn, ?_⟩
    show 1 ≤ kindI y.f0 ∧ kindI y.f0 ≤ 4
    unfold kindI
    split
    · omega
    · rw [if_pos (by omega)]; omega
  · obtain ⟨c, hc, ht, _⟩ := change_of h
    obtain ⟨h0, hp, _⟩ := change_parts ht
    rw [wants_3 h hc] at hx
    rcases List.mem_cons.1 hx with rfl | hx
    · exact ⟨h0, by show (1 : Int) ≤ 2; decide, by show (2 : Int) ≤ 4; decide⟩
    · obtain ⟨y, hy, rfl⟩ := List.mem_map.1 hx
      exact ⟨hp y hy, by show (1 : Int) ≤ 3; decide, by show (3 : Int) ≤ 4; decide⟩
  · obtain ⟨c, hc, ht, _⟩ := label_of h
    obtain ⟨h0, h1, h4, _⟩ := label_parts ht
    rw [wants_4 h hc] at hx
    obtain rfl := List.mem_singleton.1 hx
    exact ⟨h0, h1, h4⟩
end Go.Proofs.YtehmhfbfgniekaaGreatDoor.Ob

namespace Go.Proofs.YtehmhfbfgniekaaGreatDoor.Ob
set_option linter.unusedVariables false
set_option linter.unusedSimpArgs false
set_option linter.unusedSectionVars false
set_option maxRecDepth 100000
open Go Go.RowKit Go.Proofs.YtehmhfbfgniekaaGreatDoorW.PrintWords Go.Proofs.YtehmhfbfgniekaaGreatDoorW.PrintLast Go.Proofs.YtehmhfbfgniekaaGreatDoorW.PrintMore PObBase PObDoc
theorem hexd_ok (n : Int) (h0 : 0 ≤ n) (h1 : n < 16) : hexOk ((Dg.hexd n).toNat.toUInt8) = true := by
  rw [hexOk_iff]
  rcases (show n = 0 ∨ n = 1 ∨ n = 2 ∨ n = 3 ∨ n = 4 ∨ n = 5 ∨ n = 6 ∨ n = 7 ∨ n = 8 ∨ n = 9 ∨ n = 10 ∨ n = 11 ∨ n = 12 ∨ n = 13 ∨ n = 14 ∨ n = 15 by omega) with rfl | rfl | rfl | rfl | rfl | rfl | rfl | rfl | rfl | rfl | rfl | rfl | rfl | rfl | rfl | rfl <;> decide
theorem nm_nameS (s : ByteArray) : nmB (nameS s) = true := by
  unfold nmB
  rw [Bool.and_eq_true, List.all_eq_true, decide_eq_true_iff]
  constructor
  · intro u hu
    have h1 : ∃ x ∈ Dg.nameL (Dg.shaL (bytesOf s)), u = x.toNat.toUInt8 := by
      unfold nameS strOfNums at hu
      simp only [L] at hu
      obtain ⟨x, hx, e⟩ := List.mem_map.1 hu
      exact ⟨x, hx, e.symm⟩
    obtain ⟨x, hx, rfl⟩ := h1
    unfold Dg.nameL at hx
    obtain ⟨c, hc, hx⟩ := List.mem_flatMap.1 hx
    have h8 := Dg.shaL_8 _ c hc
    rcases List.mem_cons.1 hx with rfl | hx
    · exact hexd_ok _ (by omega) (by omega)
    · obtain rfl := List.mem_singleton.1 hx
      exact hexd_ok _ (by omega) (by omega)
  · show (strOfNums _).size = 64
    rw [strOfNums_size, Dg.nameL_len, Dg.shaL_len]
def na : ByteArray := ⟨#[97]⟩
def nac : ByteArray := ⟨#[97, 46, 99]⟩
def nw : ByteArray := ⟨#[119]⟩
def nt : ByteArray := ⟨#[116]⟩
def nn : ByteArray := ⟨#[110]⟩
section
variable {a : ByteArray} (h : nmB a = true)
include h
theorem hd1 : putTree [⟨3, na, a⟩, ⟨1, nac, a⟩] = (⟨#[]⟩, false) := by
  have : treeB [⟨3, na, a⟩, ⟨1, nac, a⟩] = false := by
    refine treeB_false (i := 1) (x := ⟨1, nac, a⟩) rfl ?_
    have hk : decide (L (keyS (([⟨3, na, a⟩, ⟨1, nac, a⟩] : List It)[1 - 1]?.getD noIt)) < L (keyS ⟨1, nac, a⟩)) = false := by
      rw [decide_eq_false_iff_not]
      have e1 : L (keyS (([⟨3, na, a⟩, ⟨1, nac, a⟩] : List It)[1 - 1]?.getD noIt)) = [97, 47] := rfl
      have e2 : L (keyS (⟨1, nac, a⟩ : It)) = [97, 46, 99] := rfl
      rw [e1, e2]; decide
    unfold okI
    rw [hk]; simp
  rw [putTree, this]; rfl
theorem hd2 : ∃ o, putTree [⟨1, nac, a⟩, ⟨3, na, a⟩] = (o, true) := by
  have : treeB [⟨1, nac, a⟩, ⟨3, na, a⟩] = true := by
    rw [treeB_true]
    · rfl
    · intro j x hx
      have hj := (List.getElem?_eq_some_iff.1 hx).1
      have hj2 : j < 2 := hj
      rcases (show j = 0 ∨ j = 1 by omega) with rfl | rfl
      · injection hx with hx
        subst hx
        have e1 : partB nac = true := by decide +kernel
        unfold okI
        simp only [h, e1]
        rfl
      · injection hx with hx
        subst hx
        have e1 : partB na = true := by decide +kernel
        have e2 : cntI (([⟨1, nac, a⟩, ⟨3, na, a⟩] : List It).take 1) na = 0 := by
          show (([⟨1, nac, a⟩] : List It).filter (fun y => decide (y.f1 = na))).length = 0
          rw [List.filter_cons_of_neg (by rw [decide_eq_true_iff]; show ¬ nac = na; decide)]; rfl
        have hk : decide (L (keyS (([⟨1, nac, a⟩, ⟨3, na, a⟩] : List It)[1 - 1]?.getD noIt)) < L (keyS ⟨3, na, a⟩)) = true := by
          rw [decide_eq_true_iff]
          have e1 : L (keyS (([⟨1, nac, a⟩, ⟨3, na, a⟩] : List It)[1 - 1]?.getD noIt)) = [97, 46, 99] := rfl
          have e2 : L (keyS (⟨3, na, a⟩ : It)) = [97, 47] := rfl
          rw [e1, e2]; decide
        unfold okI
        simp only [h, e1, e2, hk]
        rfl
  exact ⟨_, putTree_right this⟩
theorem hd3 : ∃ o, putChange ⟨a, [], nw, nt⟩ = (o, true) ∧ o.size ≤ 65536 := by
  have : changeB ⟨a, [], nw, nt⟩ = true := by
    rw [changeB]
    simp only [h, Bool.and_eq_true, decide_eq_true_iff]
    exact ⟨⟨⟨⟨⟨trivial, rfl⟩, by decide⟩, List.nodup_nil⟩, by decide⟩, by decide +kernel⟩
  refine ⟨_, putChange_iff.2 ⟨this, rfl⟩, ?_⟩
  have hz := nm_size h
  rw [bs_size]
  simp [changeL, lineL, wTree, wWho, nw, nt, L, hz]
end
end Go.Proofs.YtehmhfbfgniekaaGreatDoor.Ob

namespace Go.Proofs.YtehmhfbfgniekaaGreatDoor.Wk
set_option linter.unusedVariables false
set_option linter.unusedSimpArgs false
open Go Go.RowKit Go.Proofs.YtehmhfbfgniekaaGreatDoorW.PrintWords Go.Proofs.YtehmhfbfgniekaaGreatDoorW.PrintLast Go.Proofs.YtehmhfbfgniekaaGreatDoorW.PrintMore PWkB Mp Ob
def Osh (l : List Ob1) : Prop := ∀ x ∈ l, x.f1.size ≤ 400000000
noncomputable def setM : List Ob1 → ByteArray → Option Ob1
  | [], _ => none
  | o :: l, s => (setM l s).or (if idS o.f0 o.f1 = s ∧ s ≠ ⟨#[]⟩ then some o else none)
theorem setM_app (a b : List Ob1) (s : ByteArray) : setM (a ++ b) s = (setM b s).or (setM a s) := by
  induction a with
  | nil => simp [setM]
  | cons x a ih => rw [List.cons_append, setM, setM, ih, Option.or_assoc]
theorem setM_some {l : List Ob1} {s : ByteArray} {o : Ob1} (h : setM l s = some o) : o ∈ l ∧ idS o.f0 o.f1 = s ∧ s ≠ ⟨#[]⟩ := by
  induction l with
  | nil => cases h
  | cons x l ih =>
    rw [setM] at h
    cases hl : setM l s with
    | some y =>
      rw [hl] at h
      obtain rfl := Option.some.inj h
      obtain ⟨h1, h2⟩ := ih hl
      exact ⟨List.mem_cons_of_mem _ h1, h2⟩
    | none =>
      rw [hl] at h
      simp only [Option.none_or] at h
      split at h
      · rename_i hc
        obtain rfl := Option.some.inj h
        exact ⟨List.mem_cons_self, hc⟩
      · cases h
theorem idS_size (k : Int) (d : ByteArray) : (idS k d).size ≤ maxLen := by
  have hm : maxLen = 9223372036854775807 := rfl
  unfold idS
  split
  · rw [nm_size (nm_nameS _)]; omega
  · show 0 ≤ _; omega
set_option maxHeartbeats 8000000 in
set_option maxRecDepth 100000 in
theorem set_walk (A : Option Addr) (n c : Nat) (l : List Ob1) (w : World) (hC : Kd.C k30 w A n l) (hn : l.length = n) (hc : n ≤ c) (hsh : Osh l) (hm : n ≤ 1000000000) (ht : Tbl w) :
    Calls Tryz.prog 26 #[.slice A n c] w fun e w' => ∃ v, e = .returned v ∧ Kd.R k49 49 w' w.heap.size (fun _ => True) v (setOf (setM l)) ∧ Below w.heap.size w w' := by
  have HC := As.mk hC
  have HN := As.mk hn
  have HSH := As.mk hsh
  have HT := As.mk ht
  clear hC hn hsh ht
  go_enter Tryz.func26, Tryz.ntmps26
  have hmm := @run_makeMap Tryz.prog
  have hmax : Go.maxLen = 9223372036854775807 := rfl
  have HM0 : As (MapOf Tryz.prog 9 (w.alloc (.map #[] 0)) w.heap.size 0 (fun _ => none)) := ⟨mapOf_made w _ _⟩
  go_wp2_with (fail)
  go_loopw [10] (fun v10 wr => ∃ i : Nat, v10 = .int .i64 i ∧ i ≤ n ∧ As (∃ k, k ≤ i ∧ MapOf Tryz.prog 9 wr w.heap.size k (fun s => (setM (l.take i) s).map valO)) ∧ As (Below w.heap.size w wr)) (fun v10 _ => n - (intOf v10).toNat)
  case atStart => exact ⟨0, rfl, by omega, ⟨0, Nat.le_refl _, by rw [List.take_zero]; exact HM0.out⟩, ⟨(Below.refl _ _).alloc (Nat.le_refl _) _⟩⟩
  case round =>
    obtain ⟨i, rfl, hi, HMP, HB⟩ := hrel
    by_cases hlt : i < n
    · have hil : i < l.length := by rw [HN.out]; exact hlt
      obtain ⟨ad, rfl, h0, h1⟩ := at_T30 (Kd.C_below HC.out HB.out) (i : Int) (by omega) (by omega)
      rw [Int.toNat_natCast] at h0 h1
      obtain ⟨x, hx⟩ : ∃ x, rd_T30 l (i : Int) = x := ⟨_, rfl⟩
      have HX : As (l[i]? = some x) := ⟨by rw [← hx]; simp [rd_T30, hil]⟩
      rw [hx] at h0 h1
      clear hx hil
      obtain ⟨W, hW⟩ : ∃ W, wr.alloc (.cells #[.int .i64 x.f0, .string x.f1] 30) = W := ⟨_, rfl⟩
      have HBW : As (Below wr.heap.size wr W) := ⟨by rw [← hW]; exact below_new _ _⟩
      have HK : As (W.heap[wr.heap.size]? = some (.cells #[.int .i64 x.f0, .string x.f1] 30 (0, 0))) := ⟨by rw [← hW]; exact blk_new wr _⟩
      have hd0 : W.cell? ⟨wr.heap.size, 0, none⟩ = some (.int .i64 x.f0) := (blk_cell HK.out 0).trans rfl
      have hd1 : W.cell? ⟨wr.heap.size, 1, none⟩ = some (.string x.f1) := (blk_cell HK.out 1).trans rfl
      have HID := As.mk (id_walk x.f0 x.f1 (HSH.out x (List.mem_of_getElem? HX.out)) W ((HT.out.below HB.out).below HBW.out))
      go_wp2_with (fail)
      refine HID.out.mono ?_
      rintro e w1 ⟨rfl, hb⟩
      have HB1 := As.mk hb
      have hc0 : w1.cell? ⟨wr.heap.size, 0, none⟩ = some (.int .i64 x.f0) := pw_cell_below hb hd0
      have hc1 : w1.cell? ⟨wr.heap.size, 1, none⟩ = some (.string x.f1) := pw_cell_below hb hd1
      have HBA : As (Below w.heap.size w w1) := ⟨(HB.out.trans (HBW.out.mono HB.out.size)).trans (hb.mono (Nat.le_trans HB.out.size HBW.out.size))⟩
      have HST : As (∀ s, setM (l.take (i + 1)) s = (if idS x.f0 x.f1 = s ∧ s ≠ ⟨#[]⟩ then some x else none).or (setM (l.take i) s)) := ⟨fun s => by rw [take_snoc HX.out, setM_app]; simp [setM]⟩
      clear hd0 hd1 hb hW
      obtain ⟨id, hid⟩ : ∃ id, idS x.f0 x.f1 = id := ⟨_, rfl⟩
      have HIS := As.mk (idS_size x.f0 x.f1)
      rw [hid] at HST HIS ⊢
      have hM1 : ∃ k, k ≤ i ∧ MapOf Tryz.prog 9 w1 w.heap.size k (fun s => (setM (l.take i) s).map valO) := by
        obtain ⟨k, hk, hM⟩ := HMP.out
        exact ⟨k, hk, (hM.below HBW.out).below HB1.out⟩
      obtain ⟨k, hk, hM⟩ := hM1
      clear hid HMP HID
      by_cases he : id = ⟨#[]⟩
      · subst he
        have HE : As ((fun s => (setM (l.take (i + 1)) s).map valO) = fun s => (setM (l.take i) s).map valO) := ⟨by
          funext s
          show (setM (l.take (i + 1)) s).map valO = (setM (l.take i) s).map valO
          rw [HST.out, if_neg (fun h => h.2 h.1.symm)]; rfl⟩
        have HM := As.mk hM
        clear hM
        go_wp2_with (fail)
        exact ⟨⟨i + 1, by go_num, by omega, ⟨k, by omega, by rw [HE.out]; exact HM.out⟩, HBA⟩, by simp [intOf]; omega⟩
      · have hne : (id.toList == ([] : List UInt8)) = false := by
          rw [beq_eq_false_iff_ne]
          intro h
          apply he
          apply ByteArray.ext
          apply Array.ext'
          rw [← ByteArray.toList_eq, h]
        have HE : As ((fun s => (setM (l.take (i + 1)) s).map valO) = put (fun s => (setM (l.take i) s).map valO) id (valO x)) := ⟨by
          funext s
          show (setM (l.take (i + 1)) s).map valO = if s = id then some (valO x) else (setM (l.take i) s).map valO
          rw [HST.out]
          by_cases e : s = id
          · rw [if_pos e, if_pos ⟨e.symm, fun h => he (e ▸ h)⟩]; rfl
          · rw [if_neg e, if_neg (fun h => e h.1.symm)]; rfl⟩
        have hkm : k < maxLen := by omega
        have his := HIS.out
        clear he
        go_wp2_with (first
          | (at_mapUpdate; refine wpList_store _ rfl _ _ _ _ rfl 9 30 Tryz.underlying9 Tryz.underlying60 w.heap.size k _ rfl hM hkm id (valO x) rfl rfl his ?_; intro w2 hM2 hT2; have HM2 := As.mk hM2; have HT2 := As.mk hT2; clear hM2 hT2)
          | fail)
        exact ⟨⟨i + 1, by go_num, by omega, ⟨k + 1, by omega, by rw [HE.out]; exact HM2.out⟩, ⟨HBA.out.trans (turned_below HT2.out (Nat.le_refl _))⟩⟩, by simp [intOf]; omega⟩
    · have hin : i = n := by omega
      subst hin
      obtain ⟨k, hk, hM⟩ := HMP.out
      rw [List.take_of_length_le (by rw [HN.out]; exact Nat.le_refl _)] at hM
      have HM := As.mk hM
      clear hM HMP
      go_wp2_with (fail)
      refine (rising_walk _ k (setM l) wr HM.out (by omega) (fun s hs => ?_)).mono ?_
      · obtain ⟨o, ho⟩ := Option.isSome_iff_exists.1 hs
        obtain ⟨_, e, _⟩ := setM_some ho
        rw [← e]; exact idS_size _ _
      · rintro e w2 ⟨v, rfl, hR, hb⟩
        have HR := As.mk hR
        have HB2 := As.mk hb
        clear hR hb
        go_wp2_with (fail)
        go_ret
        exact ⟨_, rfl, Kd.R_lower HR.out HB.out.size, HB.out.trans (HB2.out.mono HB.out.size)⟩
end Go.Proofs.YtehmhfbfgniekaaGreatDoor.Wk
