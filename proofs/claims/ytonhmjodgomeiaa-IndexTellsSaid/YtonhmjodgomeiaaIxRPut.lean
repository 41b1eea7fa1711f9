/- The document's Put: the index of any names, or the error. No condition. -/
import Derived.Test.YtonhmjodgomeiaaIxRPutP
import Derived.Test.YtonhmjodgomeiaaMIxD
namespace Go.Proofs.Ytonhmjodgomeiaa.Ix
set_option linter.unusedVariables false
set_option linter.unusedSimpArgs false
open Go.RowKit Blk Dg Go.Proofs.YtonhmjodgomeiaaW.PrintWords Go.Proofs.YtonhmjodgomeiaaW.PrintLast Go.Proofs.YtonhmjodgomeiaaW.PrintMore

theorem info_i : (Try.prog.info? 3).map (fun i => (i.zero, i.size, i.bytes)) = some (some (.int .i64 0), 1, 8) := by kernel_rfl
theorem info_i1 : ∃ i : TypeInfo, Try.prog.info? 3 = some i ∧ i.size = 1 := by
  obtain ⟨i, hi, hz⟩ := Option.map_eq_some_iff.1 info_i
  simp only [Prod.mk.injEq] at hz
  exact ⟨i, hi, hz.2.1⟩
theorem own_empty_i (W : World) (base : Nat) (h : base ≤ W.heap.size) :
    (Kd.int .i64).R 3 (W.alloc (.cells #[] 3)) base (fun _ => True) (.slice (some ⟨W.heap.size, 0, none⟩) 0 0) [] := by
  refine ⟨fun _ _ => trivial, [], ?_, ?_⟩
  · have := World.ownsRow_lit (base := base) (e := 3) (size := 1) W #[] 0 h (by decide) (by simp)
    exact (by simpa using this : (W.alloc (.cells #[] 3)).ownsRow base 3 1 (.slice (some ⟨W.heap.size, 0, none⟩) 0 0) 0 [])
  · exact ⟨rfl, fun j p hj => by simp at hj⟩
theorem slice_drop_i (A : Option Addr) (n c : Nat) (L : List Int) (j : Int) (h0 : 0 ≤ j) (hn : L.length = n) (hj : j ≤ n) (hc : n ≤ c) : ∃ (A' : Option Addr) (m c' : Nat) (r : List Int), L.drop j.toNat = r ∧ r.length = m ∧ m ≤ c' ∧
    (∀ W : World, (Instr.slice 54 (.slice A n c) (some (.int .i64 j)) none none).run Try.prog W = .ok (.slice A' m c') W) ∧ (∀ w, (Kd.int .i64).C w A n L → (Kd.int .i64).C w A' m r) := by
  obtain ⟨i, hi, hs⟩ := info_i1
  subst hn
  obtain ⟨A', h1, h2, h3⟩ := print_drop_of (P := Try.prog) (Value.int .i64) (0 : Int) 54 3 .i64 Try.underlying54 hi hs A c L j h0 hj hc
  exact ⟨A', _, _, _, rfl, rfl, h3, h1, fun w h => Kd.C_of_reads (h2 w (Kd.reads_of_C (d := (0 : Int)) h))⟩
theorem slice_take_i (A : Option Addr) (n c : Nat) (L : List Int) (j : Int) (h0 : 0 ≤ j) (hn : L.length = n) (hj : j ≤ n) (hc : n ≤ c) : ∃ (m : Nat) (r : List Int), L.take j.toNat = r ∧ r.length = m ∧ m ≤ c ∧
    (∀ W : World, (Instr.slice 54 (.slice A n c) none (some (.int .i64 j)) none).run Try.prog W = .ok (.slice A m c) W) ∧ (∀ w, (Kd.int .i64).C w A n L → (Kd.int .i64).C w A m r) := by
  obtain ⟨i, hi, hs⟩ := info_i1
  subst hn
  obtain ⟨h1, h2, h3⟩ := print_take_of (P := Try.prog) (Value.int .i64) (0 : Int) 54 3 .i64 Try.underlying54 hi hs A c L j h0 hj hc
  exact ⟨_, _, rfl, rfl, h3, h1, fun w h => Kd.C_of_reads (h2 w (Kd.reads_of_C (d := (0 : Int)) h))⟩
def intsOf (L : List Nat) : List Int := L.map (fun (k : Nat) => (k : Int))
theorem intsOf_len (L : List Nat) : (intsOf L).length = L.length := by rw [intsOf, List.length_map]
theorem intsOf_snoc (L : List Nat) (i : Nat) : intsOf L ++ [(i : Int)] = intsOf (L ++ [i]) := by simp [intsOf]
theorem intsOf_rd (L : List Nat) (b : Nat) (h : b < L.length) (j : Int) (hj : j = b) : rd (intsOf L) j = (L[b] : Int) := by
  subst hj
  rw [rd, Int.toNat_natCast, List.getD_eq_getElem?_getD, intsOf, List.getElem?_map, List.getElem?_eq_getElem h]
  rfl
theorem left_at {w : World} {base n c : Nat} {e : TypeId} {ok : Nat → Prop} {A : Option Addr} {L : List Nat} (h : (Kd.int .i64).R e w base ok (.slice A n c) (intsOf L)) (b : Nat) (hb : b < L.length) : ∃ a, A = some a ∧ w.cell? (a.add b) = some (.int .i64 (L[b] : Int)) := by
  obtain ⟨a, h1, h2⟩ := Kd.at_int (Kd.R_reads' h).2.2 (b : Int) (by omega) (by rw [intsOf_len]; omega)
  rw [Int.toNat_natCast, intsOf_rd L b hb _ rfl] at h2
  exact ⟨a, h1, h2⟩
theorem ids_at {w : World} {A : Option Addr} {n : Nat} {ids : List ByteArray} (h : Kd.string.C w A n ids) (hn : ids.length = n) (b : Nat) (hb : b < n) : ∃ a s, A = some a ∧ ids[b]? = some s ∧ w.cell? (a.add b) = some (.string s) ∧ (kyOf ids b).1 = rawL s := by
  obtain ⟨a, h1, h2⟩ := Kd.at_string h (b : Int) (by omega) (by omega)
  have hb2 : b < ids.length := by omega
  refine ⟨a, ids[b], h1, List.getElem?_eq_getElem hb2, ?_, ?_⟩
  · rw [Int.toNat_natCast] at h2
    rw [h2]; simp [rdOf, hb2]
  · simp [kyOf, hb2]
set_option maxHeartbeats 4000000 in
set_option maxRecDepth 100000 in
theorem rput_calls (A : Option Addr) (c n : Nat) (ids : List ByteArray) (w : World) (hC : Kd.string.C w A n ids) (hn : ids.length = n) (hc : n ≤ c) :
    Calls Try.prog 12 #[.slice A n c] w fun e w' => ∃ v b z, e = .returned (.tuple #[v, .int .i64 z]) ∧ PutR ids b z ∧ (Kd.int .u8).R 5 w' w.heap.size (fun _ => True) v b ∧ Below w.heap.size w w' := by
  have HC := As.mk hC
  have HN := As.mk hn
  clear hC hn
  by_cases h512 : 512 < n
  · have hP : As (PutR ids [] 2) := ⟨by rw [putE, if_pos (by rw [HN.out]; exact h512)], fun h => absurd h (by decide), fun _ => rfl⟩
    go_enter Try.func12, Try.ntmps12
    go_wp2_with (fail)
    go_ret2
    exact ⟨_, [], 2, rfl, hP.out, Kd.R_nil _ _ _ _ _, Below.refl _ _⟩
  · have hn5 : n ≤ 512 := by omega
    have g5 : decide (512 < (n : Int)) = false := decide_eq_false (by omega)
    go_enter Try.func12, Try.ntmps12
    go_wp2_with (fail)
    go_loopw [4] (fun v4 wr => ∃ i : Nat, v4 = .int .i64 i ∧ i ≤ n ∧ As ((ids.take i).all (fun s => namedL (bytesOf s)) = true) ∧ As (Below w.heap.size w wr)) (fun v4 _ => n - (intOf v4).toNat)
    case atStart => exact ⟨0, rfl, by omega, ⟨by simp⟩, ⟨Below.refl _ _⟩⟩
    case round =>
      obtain ⟨i, rfl, hi, HA, HB⟩ := hrel
      by_cases hlt : i < n
      · have hil : i < ids.length := by rw [HN.out]; exact hlt
        obtain ⟨ad, rfl, hcell⟩ := Kd.at_string (Kd.C_below HC.out HB.out) (i : Int) (by omega) (by omega)
        rw [Int.toNat_natCast] at hcell
        obtain ⟨s, hs⟩ : ∃ s, rdOf ByteArray.empty ids (i : Int) = s := ⟨_, rfl⟩
        have hsi : ids[i]? = some s := by rw [← hs]; simp [rdOf, hil]
        rw [hs] at hcell
        have HSI := As.mk hsi
        clear hs hil hsi
        go_wp2_with (fail)
        refine (rnamed_calls s _).mono ?_
        rintro e wa ⟨rfl, ka⟩
        have HBa : As (Below w.heap.size w wa) := ⟨HB.out.trans (ka.mono HB.out.size)⟩
        clear ka hcell HB
        by_cases hnm : namedL (bytesOf s) = true
        · have HAd : As ((ids.take (i + 1)).all (fun s => namedL (bytesOf s)) = true) := ⟨named_snoc ids i s HSI.out hnm HA.out⟩
          rw [hnm]
          clear hnm
          go_wp2_with (fail)
          exact ⟨⟨i + 1, by go_num, by omega, HAd, HBa⟩, by simp [intOf]; omega⟩
        · rw [Bool.not_eq_true] at hnm
          have hP : As (PutR ids [] 1) := ⟨by
            rw [putE, if_neg (by rw [HN.out]; exact h512), if_pos]
            rw [List.all_eq_false]
            exact ⟨s, List.mem_of_getElem? HSI.out, by rw [hnm]; decide⟩, fun h => absurd h (by decide), fun _ => rfl⟩
          rw [hnm]
          clear hnm
          go_wp2_with (fail)
          go_ret2
          exact ⟨_, [], 1, rfl, hP.out, Kd.R_nil _ _ _ _ _, HBa.out⟩
      · have hin : i = n := by omega
        subst hin
        have HA2 : As (ids.all (fun s => namedL (bytesOf s)) = true) := ⟨by have := HA.out; rwa [List.take_of_length_le (by rw [HN.out]; exact Nat.le_refl _)] at this⟩
        have HB0 := HB
        clear HA HB
        go_wp2_with (fail)
        go_loopw [6, 7] (fun v6 v7 wr => ∃ q : Nat, v7 = .int .i64 q ∧ q ≤ i ∧ As ((ids.take q).Nodup) ∧ As ((Kd.int .i64).R 3 wr w.heap.size (fun _ => True) v6 (intsOf (List.range q))) ∧ As (Below w.heap.size w wr)) (fun _ v7 _ => i - (intOf v7).toNat)
        case atStart => exact ⟨0, rfl, by omega, ⟨by simp⟩, ⟨(Kd.R_nil _ _ _ _ _ : Kd.R (Kd.int .i64) _ _ _ _ _ [])⟩, HB0⟩
        case round =>
          obtain ⟨q, rfl, hq, HD, HO, HB⟩ := hrel
          by_cases hlt : q < i
          · have hil : q < ids.length := by rw [HN.out]; exact hlt
            obtain ⟨s, hs⟩ : ∃ s, ids[q]? = some s := ⟨_, List.getElem?_eq_getElem hil⟩
            have HS := As.mk hs
            clear hs hil
            go_wp2_with (fail)
            go_loopw [8] (fun v8 wi => ∃ k : Nat, v8 = .int .i64 k ∧ k ≤ q ∧ As (∀ j t, j < k → ids[j]? = some t → t ≠ s) ∧ As ((Kd.int .i64).R 3 wi w.heap.size (fun _ => True) u6 (intsOf (List.range q))) ∧ As (Below w.heap.size w wi)) (fun v8 _ => q - (intOf v8).toNat)
            case atStart => exact ⟨0, rfl, by omega, ⟨fun j t h => by omega⟩, HO, HB⟩
            case round =>
              clear HO HB
              obtain ⟨k, rfl, hk, HU, HO, HB⟩ := hrel
              have HCi := As.mk (Kd.C_below HC.out HB.out)
              by_cases hkq : k < q
              · obtain ⟨ad, rfl, hcell⟩ := Kd.at_string HCi.out (k : Int) (by omega) (by omega)
                obtain ⟨ad2, ha2, hcell2⟩ := Kd.at_string HCi.out (q : Int) (by omega) (by omega)
                obtain rfl := Option.some.inj ha2
                rw [Int.toNat_natCast] at hcell hcell2
                obtain ⟨t, ht⟩ : ∃ t, rdOf ByteArray.empty ids (k : Int) = t := ⟨_, rfl⟩
                have hkl : k < ids.length := by rw [HN.out]; omega
                have htk : ids[k]? = some t := by rw [← ht]; simp [rdOf, hkl]
                have hsq : rdOf ByteArray.empty ids (q : Int) = s := by
                  rw [rdOf, Int.toNat_natCast, List.getD_eq_getElem?_getD, HS.out, Option.getD_some]
                rw [ht] at hcell
                rw [hsq] at hcell2
                have HTK := As.mk htk
                clear ha2 ht hkl htk hsq
                by_cases hts : t = s
                · subst hts
                  have hP : As (PutR ids [] 91) := ⟨by
                    rw [putE, if_neg (by rw [HN.out]; exact h512), if_neg (by rw [HA2.out]; decide), if_neg]
                    rw [nodup_raw HA2.out]
                    intro hnd
                    rw [List.nodup_iff_pairwise_ne, List.pairwise_iff_getElem] at hnd
                    have h1 := List.getElem?_eq_some_iff.1 HTK.out
                    have h2 := List.getElem?_eq_some_iff.1 HS.out
                    exact hnd k q h1.1 h2.1 hkq (by rw [h1.2, h2.2]), fun h => absurd h (by decide), fun _ => rfl⟩
                  have e1 : (t.toList == t.toList) = true := beq_iff_eq.2 rfl
                  go_wp2_with (fail)
                  go_region
                  go_wp2_with (fail)
                  go_ret2
                  exact ⟨_, [], 91, rfl, hP.out, Kd.R_nil _ _ _ _ _, HB.out.drew⟩
                · have HU2 : As (∀ j t, j < k + 1 → ids[j]? = some t → t ≠ s) := ⟨fun j u hj hu => by
                    by_cases hjk : j = k
                    · subst hjk
                      rw [HTK.out] at hu
                      rw [← Option.some.inj hu]; exact hts
                    · exact HU.out j u (by omega) hu⟩
                  have e1 : (t.toList == s.toList) = false := by
                    rw [Bool.eq_false_iff, Ne, eq_toList]; exact hts
                  clear hts
                  go_wp2_with (fail)
                  go_region
                  go_wp2_with (fail)
                  exact ⟨⟨k + 1, by go_num, by omega, HU2, ⟨Kd.R_drew HO.out⟩, ⟨HB.out.drew⟩⟩, by simp [intOf]; omega⟩
              · have hkq2 : k = q := by omega
                subst hkq2
                have HD2 : As ((ids.take (k + 1)).Nodup) := ⟨by
                  rw [List.take_add_one, HS.out, List.nodup_append]
                  refine ⟨HD.out, by simp, fun a ha b hb => ?_⟩
                  simp only [Option.toList_some, List.mem_singleton] at hb
                  subst hb
                  obtain ⟨j, hj⟩ := List.getElem?_of_mem ha
                  rw [List.getElem?_take] at hj
                  split at hj
                  · rename_i hjk
                    exact HU.out j a hjk hj
                  · cases hj⟩
                have hl8 : ((intsOf (List.range k)).length + 1) * 8 ≤ 140737488355328 := by rw [intsOf_len, List.length_range]; omega
                clear HCi HU
                go_wp2_with (first
                  | ((with_reducible refine gate_builtin (b := .append) (xs := #[.tmp 50, .tmp 52]) rfl ?_); at_builtin; refine Kd.R_append (Kd.int .i64) (w0 := w) (W := wr) w.heap.size rfl (.tmp 50) (.tmp 52) 54 3 (.int .i64 0) 8 rfl Try.underlying54 info_i rfl (by decide) (by decide) u6 (intsOf (List.range k)) (k : Int) [.int .i64 (k : Int)] (fun _ => True) (fun _ => False) rfl rfl rfl (fun _ hk => hk.elim) (fun _ _ => trivial) HO.out HB.out HB.out.size hl8 ?_; intro v5 w5 ho hb hg hat; have HX5 := As.mk ho; have HB5 := As.mk hb; clear ho hb hg hat)
                  | fail)
                exact ⟨⟨k + 1, by go_num, by omega, HD2, ⟨by rw [List.range_succ, ← intsOf_snoc]; exact HX5.out⟩, HB5⟩, by simp [intOf]; omega⟩
          · have hqi : q = i := by omega
            subst hqi
            have HND : As (ids.Nodup) := ⟨by have := HD.out; rwa [List.take_of_length_le (by rw [HN.out]; exact Nat.le_refl _)] at this⟩
            have HO0 := HO
            have HB1 := HB
            clear HD HO HB HB0
            obtain ⟨K, hK⟩ : ∃ K, ids.map rawL = K := ⟨_, rfl⟩
            have HKl : As (K.length = q) := ⟨by rw [← hK, List.length_map, HN.out]⟩
            have HK := As.mk hK
            clear hK
            go_wp2_with (fail)
            go_loopw [5, 9] (fun v5 v9 wr => ∃ c : Nat, v9 = .int .i64 c ∧ c ≤ 256 ∧ As ((Kd.int .u8).R 5 wr w.heap.size (fun _ => True) v5 ((List.range c).flatMap fun j => twoI (cntN K j))) ∧ As ((Kd.int .i64).R 3 wr w.heap.size (fun _ => True) u6 (intsOf (List.range q))) ∧ As (Below w.heap.size w wr)) (fun _ v9 _ => 256 - (intOf v9).toNat)
            case atStart => exact ⟨0, rfl, by omega, ⟨(Kd.R_nil _ _ _ _ _ : Kd.R (Kd.int .u8) _ _ _ _ _ [])⟩, HO0, HB1⟩
            case round =>
              obtain ⟨cc, rfl, hcc, HR, HO, HB⟩ := hrel
              by_cases hc2 : cc < 256
              · have e256 : decide ((cc : Int) < 256) = true := decide_eq_true (by omega)
                go_wp2_with (fail)
                go_loopw [10, 11] (fun v10 v11 wr => ∃ i : Nat, v11 = .int .i64 i ∧ i ≤ q ∧ v10 = .int .i64 (cntN ((ids.take i).map rawL) cc : Nat) ∧ As ((Kd.int .u8).R 5 wr w.heap.size (fun _ => True) u5 ((List.range cc).flatMap fun j => twoI (cntN K j))) ∧ As ((Kd.int .i64).R 3 wr w.heap.size (fun _ => True) u6 (intsOf (List.range q))) ∧ As (Below w.heap.size w wr)) (fun _ v11 _ => q - (intOf v11).toNat)
                case atStart => exact ⟨0, rfl, by omega, by simp [cntN], HR, HO, HB⟩
                case round =>
                  clear HR HO HB
                  obtain ⟨i, rfl, hi, rfl, HR, HO, HB⟩ := hrel
                  by_cases hin : i < q
                  · have hil : i < ids.length := by rw [HN.out]; exact hin
                    obtain ⟨ad, rfl, hcell⟩ := Kd.at_string (Kd.C_below HC.out HB.out) (i : Int) (by omega) (by omega)
                    rw [Int.toNat_natCast] at hcell
                    obtain ⟨s, hs⟩ : ∃ s, rdOf ByteArray.empty ids (i : Int) = s := ⟨_, rfl⟩
                    have hsi : ids[i]? = some s := by rw [← hs]; simp [rdOf, hil]
                    rw [hs] at hcell
                    have hnm := List.all_eq_true.1 HA2.out s (List.mem_of_getElem? hsi)
                    obtain ⟨x0, rr, hrw, hx0, hx1⟩ := raw_head hnm
                    have hct := cnt_take (c := cc) hsi
                    rw [hrw, List.headD_cons] at hct
                    have hrc := fun W => rraw_calls s W hnm
                    rw [hrw] at hrc
                    have HRC := As.mk hrc
                    obtain ⟨M, hM⟩ : ∃ M, cntN ((ids.take i).map rawL) cc = M := ⟨_, rfl⟩
                    rw [hM] at hct ⊢
                    have hMq : M ≤ 512 := by
                      rw [← hM]
                      have := cntN_le ((ids.take i).map rawL) cc
                      rw [List.length_map, List.length_take] at this
                      omega
                    have HCT := As.mk hct
                    clear hs hil hsi hnm hrw hct hrc hM
                    go_wp2_with (fail)
                    refine (HRC.out _).mono ?_
                    rintro e wb ⟨vb, rfl, hRb, hb⟩
                    have HRr := As.mk (Kd.R_below HR.out hb)
                    have HOr := As.mk (Kd.R_below HO.out hb)
                    have HBr : As (Below w.heap.size w wb) := ⟨HB.out.trans (hb.mono HB.out.size)⟩
                    obtain ⟨Ab, cb, rfl, hcb, hCb⟩ := Kd.R_reads hRb
                    obtain ⟨m, hm⟩ : ∃ m, (x0 :: rr).length = m := ⟨_, rfl⟩
                    have hm1 : 1 ≤ m := by rw [← hm, List.length_cons]; omega
                    rw [hm] at hCb hcb ⊢
                    obtain ⟨ab, rfl, hc0⟩ := Kd.at_int hCb 0 (by omega) (by omega)
                    rw [show rd (x0 :: rr) 0 = x0 from rfl, show ab.add (0 : Int).toNat = ab from Addr.add_zero' ab] at hc0
                    clear hb hRb hCb hm HR HO HB HRC hcell hcb
                    by_cases hxc : x0 ≤ (cc : Int)
                    · have HCT2 : As (cntN ((ids.take (i + 1)).map rawL) cc = M + 1) := ⟨by rw [HCT.out, if_pos hxc]⟩
                      have e1 : decide (x0 ≤ (cc : Int)) = true := decide_eq_true hxc
                      go_wp2_with (fail)
                      exact ⟨⟨i + 1, by go_num, by omega, by rw [HCT2.out]; go_num, HRr, HOr, HBr⟩, by simp [intOf]; omega⟩
                    · have HCT2 : As (cntN ((ids.take (i + 1)).map rawL) cc = M) := ⟨by rw [HCT.out, if_neg hxc]; rfl⟩
                      have e1 : decide (x0 ≤ (cc : Int)) = false := decide_eq_false hxc
                      go_wp2_with (fail)
                      exact ⟨⟨i + 1, by go_num, by omega, by rw [HCT2.out], HRr, HOr, HBr⟩, by simp [intOf]; omega⟩
                  · have hiq : i = q := by omega
                    subst hiq
                    rw [List.take_of_length_le (by rw [HN.out]; exact Nat.le_refl _), HK.out]
                    obtain ⟨M, hM⟩ : ∃ M, cntN K cc = M := ⟨_, rfl⟩
                    rw [hM]
                    have hMq : M ≤ 512 := by
                      rw [← hM]
                      have := cntN_le K cc
                      have := HKl.out
                      omega
                    have HMM := As.mk hM
                    clear hM
                    go_wp2_with (fail)
                    refine (rtwo_calls M (by omega) _).mono ?_
                    rintro e wb ⟨vb, rfl, hRb, hb⟩
                    have HRr := As.mk (Kd.R_below HR.out hb)
                    have HOr := As.mk (Kd.R_below HO.out hb)
                    have HBr : As (Below w.heap.size w wb) := ⟨HB.out.trans (hb.mono HB.out.size)⟩
                    obtain ⟨Ab, cb, rfl, hcb, hCb⟩ := Kd.R_reads hRb
                    have HCb := As.mk hCb
                    have hl2 : (((List.range cc).flatMap fun j => twoI (cntN K j)).length + 2) * 1 ≤ 140737488355328 := by
                      rw [fan_len]; omega
                    clear hb hRb hCb HR HO HB hcb
                    go_wp2_with (first
                      | ((with_reducible refine gate_builtin (b := .append) (xs := #[.tmp 76, .tmp 78]) rfl ?_); at_builtin; refine Kd.R_append_rows (Kd.int .u8) (Rr := (Kd.int .u8).K wb) (w0 := w) w.heap.size rfl (.tmp 76) (.tmp 78) 23 5 (.int .u8 0) 1 rfl Try.underlying23 info_u8 rfl (by decide) (by decide) u5 ((List.range cc).flatMap fun j => twoI (cntN K j)) (twoI M) Ab 2 cb (fun _ => True) (fun _ => False) rfl rfl HRr.out HCb.out (fun _ _ h => h) (fun _ hk => hk.elim) (fun _ _ => trivial) HBr.out HBr.out.size hl2 ?_; intro v1 w1 ho hb1 hg hat; have HO2 := As.mk ho; have HB2 := As.mk hb1; have HOx := As.mk (Kd.R_over HOr.out HRr.out (by decide) hg); clear ho hb1 hat hg)
                      | fail)
                    exact ⟨⟨cc + 1, by go_num, by omega, ⟨by rw [fan_snoc, HMM.out]; exact HO2.out⟩, HOx, HB2⟩, by simp [intOf]; omega⟩
              · have : cc = 256 := by omega
                subst this
                have HRR : As ((Kd.int .u8).R 5 wr w.heap.size (fun _ => True) u5 (fanL K ++ rowsL [])) := ⟨by simpa [rowsL, fanL] using HR.out⟩
                have HOO := HO
                have HBB := HB
                have HNR : As ((ids.map rawL).Nodup) := ⟨(nodup_raw HA2.out).2 HND.out⟩
                have HS0 := As.mk (Sel.start ids)
                rw [HN.out] at HS0
                clear HR HO HB HO0 HB1
                go_wp2_with (fail)
                go_loopw [5, 6] (fun v5 v6 wr => ∃ (D : List (List Int × Nat)) (L : List Nat), As (Sel ids D L) ∧ (∃ A6 c6, v6 = .slice A6 L.length c6) ∧ As ((Kd.int .u8).R 5 wr w.heap.size (fun _ => True) v5 (fanL K ++ rowsL D)) ∧ As ((Kd.int .i64).R 3 wr w.heap.size (fun _ => True) v6 (intsOf L)) ∧ As (Below w.heap.size w wr)) (fun _ v6 _ => slLen v6)
                case atStart =>
                  obtain ⟨A6, c6, rfl, _⟩ := Kd.R_reads HOO.out
                  exact ⟨[], List.range q, HS0, ⟨A6, c6, by rw [intsOf_len]⟩, HRR, HOO, HBB⟩
                case round =>
                  clear HRR HOO HBB HS0
                  obtain ⟨D, L, HS, ⟨A6, c6, rfl⟩, HR, HO, HB⟩ := hrel
                  obtain ⟨m, hm⟩ : ∃ m, L.length = m := ⟨_, rfl⟩
                  rw [hm]
                  rcases m with _ | m
                  · obtain rfl := List.eq_nil_of_length_eq_zero hm
                    clear hm
                    have hp0 := HS.out.done (by rw [HN.out]; exact hn5) HA2.out HNR.out
                    rw [HK.out] at hp0
                    have hD32 : ∀ p ∈ D, p.1.length = 32 ∧ ∀ x ∈ p.1, 0 ≤ x ∧ x < 256 := fun p hp => by
                      obtain ⟨t, ht, e⟩ := key_mem (HS.out.perm.subset (List.mem_append_left _ hp))
                      have hnt := List.all_eq_true.1 HA2.out t (List.mem_of_getElem? ht)
                      rw [e]
                      exact ⟨rawL_len hnt, rawL_8 hnt⟩
                    have hDl := HS.out.len
                    rw [HN.out] at hDl
                    have hO8 : ∀ y ∈ fanL K ++ rowsL D, 0 ≤ y ∧ y < 256 := by
                      intro y hy
                      rcases List.mem_append.1 hy with hy | hy
                      · obtain ⟨j, _, hj⟩ := List.mem_flatMap.1 hy
                        exact twoI_8 _ y hj
                      · obtain ⟨p, hp, hj⟩ := List.mem_flatMap.1 hy
                        rcases List.mem_append.1 hj with hj | hj
                        · exact (hD32 p hp).2 y hj
                        · exact twoI_8 _ y hj
                    have hOl : (fanL K ++ rowsL D).length ≤ 512 + 34 * 512 := by rw [List.length_append, fanL_len, rowsL_len' D (fun p hp => (hD32 p hp).1)]; simp at hDl; omega
                    have hbe : bodyL K D = fanL K ++ rowsL D := rfl
                    rw [hbe] at hp0
                    obtain ⟨O, hO⟩ : ∃ O, fanL K ++ rowsL D = O := ⟨_, rfl⟩
                    rw [hO] at hp0 hO8 hOl HR
                    obtain ⟨Ao, co, rfl, hco, hCo⟩ := Kd.R_reads HR.out
                    have hsum := rsum_calls Ao co O wr hCo hco (by omega) hO8
                    rw [shaR_eq] at hsum
                    obtain ⟨S, hS⟩ : ∃ S, shaL O = S := ⟨_, rfl⟩
                    have hSl : S.length = 32 := by rw [← hS]; exact shaL_len O
                    rw [hS] at hsum hp0
                    have HSUM := As.mk hsum
                    have HRO := HR
                    have HP0 := As.mk hp0
                    have HSl := As.mk hSl
                    have HBq := HB
                    have hz32 := zero_32
                    clear hsum hp0 hO hO8 hS hCo HR HB HO hSl hbe hDl
                    go_wp2_with (fail)
                    refine HSUM.out.mono ?_
                    rintro e wd ⟨rfl, kd⟩
                    have HRd := As.mk (Kd.R_below HRO.out kd)
                    have HBd : As (Below w.heap.size w wd) := ⟨HBq.out.trans (kd.mono HBq.out.size)⟩
                    clear kd HRO HBq HSUM
                    obtain ⟨SX, hSX⟩ : ∃ SX, (S.map (Value.int .u8)).toArray = SX := ⟨_, rfl⟩
                    rw [hSX]
                    obtain ⟨Z3, hZ3⟩ : ∃ Z3, Z32 = Z3 := ⟨_, rfl⟩
                    rw [hZ3] at hz32
                    obtain ⟨xb, hxb⟩ : ∃ xb, wd.heap.size = xb := ⟨_, rfl⟩
                    obtain ⟨we, hwe⟩ : ∃ we, (wd.alloc (.cells Z3 45)).setRow xb SX = we := ⟨_, rfl⟩
                    have HZr : As ((wd.alloc (.cells Z3 45)).heap[xb]? = some (.cells Z3 45 (0, 0))) := ⟨by
                      have := Row.new wd (List.replicate 32 (.int .u8 0)) 45
                      unfold Row at this
                      rw [hxb] at this
                      rw [← hZ3]; exact this⟩
                    have HZs : As (Z3.size = 32) := ⟨by rw [← hZ3]; rfl⟩
                    have HSs : As (SX.size = 32) := ⟨by rw [← hSX]; simp [HSl.out]⟩
                    have HS1 : As (SX.all (·.oneCell') = true) := ⟨by rw [← hSX]; exact all_u8 _⟩
                    have hxg : w.heap.size ≤ xb := by rw [← hxb]; exact HBd.out.size
                    have HCe : As ((Kd.int .u8).C we (some ⟨wd.heap.size, 0, none⟩) 32 S) := ⟨by
                      have h1 : we.heap[xb]? = some (.cells SX 45 (0, 0)) := by rw [← hwe]; exact setRow_heap _ _ _ _ _ _ HZr.out
                      rw [← hSX] at h1
                      rw [hxb]
                      exact C_row we xb S 32 _ h1 HSl.out (by decide)⟩
                    have HRe : As ((Kd.int .u8).R 5 we w.heap.size (fun _ => True) (.slice Ao O.length co) O) := ⟨Kd.R_step HRd.out (fun k _ hk => by
                      rw [← hwe, setRow_other _ _ _ _ (by omega)]
                      exact Below.heap_alloc wd _ k hk)⟩
                    have HBe : As (Below w.heap.size w we) := ⟨by rw [← hwe]; exact below_setRow (HBd.out.alloc HBd.out.size _) hxg _⟩
                    have hl5 : (O.length + 32) * 1 ≤ 140737488355328 := by omega
                    have HXB := As.mk hxb
                    have HWE := As.mk hwe
                    clear hSX hZ3 hxb hwe HRd HBd
                    go_wp2_with (first
                      | (refine wpList_store_row rfl 45 (.tmp 14) (.tmp 133) rfl xb SX (by rw [← HXB.out]; rfl) rfl 45 Z3 HZr.out (by rw [info_32, HSs.out]) (by rw [HZs.out, HSs.out]) HS1.out ?_; rw [HWE.out])
                      | ((with_reducible refine gate_builtin (b := .append) (xs := #[.tmp 134, .tmp 135]) rfl ?_); at_builtin; refine Kd.R_append_rows (Kd.int .u8) (Rr := (Kd.int .u8).K we) (w0 := w) w.heap.size rfl (.tmp 134) (.tmp 135) 23 5 (.int .u8 0) 1 rfl Try.underlying23 info_u8 rfl (by decide) (by decide) (.slice Ao O.length co) O S (some ⟨wd.heap.size, 0, none⟩) 32 32 (fun _ => True) (fun _ => False) rfl rfl HRe.out HCe.out (fun _ _ h => h) (fun _ hk => hk.elim) (fun _ _ => trivial) HBe.out HBe.out.size hl5 ?_; intro v7 w7 ho hb1 hg hat; have HO7 := As.mk ho; have HB7 := As.mk hb1; clear ho hb1 hat hg)
                      | fail)
                    go_ret2
                    exact ⟨_, O ++ S, 0, rfl, HP0.out, HO7.out, HB7.out⟩
                  · have HM := As.mk hm
                    have hm5 : m + 1 ≤ 512 := by have := HS.out.len; rw [HN.out] at this; omega
                    have HO' := HO.out
                    rw [hm] at HO'
                    clear hm
                    go_wp2_with (fail)
                    go_loopw [12, 13] (fun v12 v13 wi => ∃ b i : Nat, v12 = .int .i64 b ∧ v13 = .int .i64 i ∧ b < m + 1 ∧ i ≤ m + 1 ∧ As (∀ j t, j < i → L[j]? = some t → cmpL (kyOf ids (L.getD b 0)).1 (kyOf ids t).1 ≤ 0) ∧ As ((Kd.int .u8).R 5 wi w.heap.size (fun _ => True) u5 (fanL K ++ rowsL D)) ∧ As ((Kd.int .i64).R 3 wi w.heap.size (fun _ => True) (.slice A6 (m + 1) c6) (intsOf L)) ∧ As (Below w.heap.size w wi)) (fun _ v13 _ => m + 1 - (intOf v13).toNat)
                    case atStart =>
                      refine ⟨0, 1, rfl, rfl, by omega, by omega, ⟨fun j t hj ht => ?_⟩, HR, ⟨HO'⟩, HB⟩
                      obtain rfl : j = 0 := by omega
                      rw [List.getD_eq_getElem?_getD, ht, Option.getD_some, (cmpL_eq _ _).2 rfl]
                      exact Int.le_refl 0
                    case round =>
                      clear HR HO HB HO'
                      obtain ⟨b, i, rfl, rfl, hb, hi, HMin, HR, HO, HB⟩ := hrel
                      have hbL : b < L.length := by rw [HM.out]; exact hb
                      by_cases him : i < m + 1
                      · have hiL : i < L.length := by rw [HM.out]; exact him
                        obtain ⟨a6, rfl, hci⟩ := left_at HO.out i hiL
                        obtain ⟨a7, ha7, hcb⟩ := left_at HO.out b hbL
                        obtain rfl := Option.some.inj ha7
                        obtain ⟨ti, hti⟩ : ∃ t, L[i] = t := ⟨_, rfl⟩
                        obtain ⟨tb, htb⟩ : ∃ t, L[b] = t := ⟨_, rfl⟩
                        have hti2 : ti < q := by have := HS.out.lt _ (List.getElem_mem hiL); rw [HN.out, hti] at this; exact this
                        have htb2 : tb < q := by have := HS.out.lt _ (List.getElem_mem hbL); rw [HN.out, htb] at this; exact this
                        have HCi := As.mk (Kd.C_below HC.out HB.out)
                        obtain ⟨ax, si, rfl, hsi, hcsi, hki⟩ := ids_at HCi.out HN.out ti hti2
                        obtain ⟨ay, sb, hay, hsb, hcsb, hkb⟩ := ids_at HCi.out HN.out tb htb2
                        obtain rfl := Option.some.inj hay
                        have hni := List.all_eq_true.1 HA2.out si (List.mem_of_getElem? hsi)
                        have hnb := List.all_eq_true.1 HA2.out sb (List.mem_of_getElem? hsb)
                        have hless := less_raw hni hnb
                        have hgb : L.getD b 0 = tb := by rw [List.getD_eq_getElem?_getD, List.getElem?_eq_getElem hbL, htb]; rfl
                        rw [hgb, hkb] at HMin
                        rw [hti] at hci
                        rw [htb] at hcb
                        have hLi : L[i]? = some ti := by rw [List.getElem?_eq_getElem hiL, hti]
                        have hLb : L[b]? = some tb := by rw [List.getElem?_eq_getElem hbL, htb]
                        by_cases hlt : cmpL (rawL si) (rawL sb) < 0
                        · rw [decide_eq_true hlt] at hless
                          have HM2 : As (∀ j t, j < i + 1 → L[j]? = some t → cmpL (kyOf ids (L.getD i 0)).1 (kyOf ids t).1 ≤ 0) := ⟨fun j t hj ht => by
                            rw [List.getD_eq_getElem?_getD, hLi, Option.getD_some, hki]
                            by_cases hji : j = i
                            · subst hji
                              rw [hLi] at ht
                              rw [← Option.some.inj ht, hki, (cmpL_eq _ _).2 rfl]
                              exact Int.le_refl 0
                            · exact cmpL_le _ _ _ (Int.le_of_lt hlt) (HMin.out j t (by omega) ht)⟩
                          clear hlt hay ha7 hti htb hsi hsb hki hkb hni hnb hgb hLi hLb HMin HCi
                          go_wp2_with (fail)
                          go_region
                          go_wp2_with (fail)
                          exact ⟨⟨i, i + 1, rfl, by go_num, by omega, by omega, HM2, ⟨Kd.R_drew HR.out⟩, ⟨Kd.R_drew HO.out⟩, ⟨HB.out.drew⟩⟩, by simp [intOf]; omega⟩
                        · rw [decide_eq_false hlt] at hless
                          have HM2 : As (∀ j t, j < i + 1 → L[j]? = some t → cmpL (kyOf ids (L.getD b 0)).1 (kyOf ids t).1 ≤ 0) := ⟨fun j t hj ht => by
                            rw [hgb, hkb]
                            by_cases hji : j = i
                            · subst hji
                              rw [hLi] at ht
                              rw [← Option.some.inj ht, hki]
                              have := cmpL_neg (rawL si) (rawL sb)
                              omega
                            · exact HMin.out j t (by omega) ht⟩
                          clear hlt hay ha7 hti htb hsi hsb hki hkb hni hnb hgb hLi hLb HMin HCi
                          go_wp2_with (fail)
                          go_region
                          go_wp2_with (fail)
                          exact ⟨⟨b, i + 1, rfl, by go_num, by omega, by omega, HM2, ⟨Kd.R_drew HR.out⟩, ⟨Kd.R_drew HO.out⟩, ⟨HB.out.drew⟩⟩, by simp [intOf]; omega⟩
                      · have him2 : i = m + 1 := by omega
                        subst him2
                        obtain ⟨a6, rfl, hcb⟩ := left_at HO.out b hbL
                        obtain ⟨tb, htb⟩ : ∃ t, L[b] = t := ⟨_, rfl⟩
                        have htb2 : tb < q := by have := HS.out.lt _ (List.getElem_mem hbL); rw [HN.out, htb] at this; exact this
                        obtain ⟨ay, sb, rfl, hsb, hcsb, hkb⟩ := ids_at (Kd.C_below HC.out HB.out) HN.out tb htb2
                        have hnb := List.all_eq_true.1 HA2.out sb (List.mem_of_getElem? hsb)
                        rw [htb] at hcb
                        have hstep := HS.out.step HNR.out b hbL (fun j i hj => by
                          have hjl : j < m + 1 := by rw [← HM.out]; exact (List.getElem?_eq_some_iff.1 hj).1
                          have := HMin.out j i hjl hj
                          rwa [show L.getD b 0 = L[b] by rw [List.getD_eq_getElem?_getD, List.getElem?_eq_getElem hbL]; rfl] at this)
                        rw [htb] at hstep
                        have hrl := rawL_len hnb
                        have hrc := fun W => rraw_calls sb W hnb
                        have hDl := HS.out.len
                        rw [HN.out, HM.out] at hDl
                        have hD32 : ∀ p ∈ D, p.1.length = 32 := fun p hp => by
                          obtain ⟨t, ht, e⟩ := key_mem (HS.out.perm.subset (List.mem_append_left _ hp))
                          rw [e]
                          exact rawL_len (List.all_eq_true.1 HA2.out t (List.mem_of_getElem? ht))
                        have hRl : (fanL K ++ rowsL D).length ≤ 512 + 34 * 512 := by rw [List.length_append, fanL_len, rowsL_len' D hD32]; omega
                        obtain ⟨Y, hY⟩ : ∃ Y, fanL K ++ rowsL D = Y := ⟨_, rfl⟩
                        obtain ⟨Z, hZ⟩ : ∃ Z, rawL sb = Z := ⟨_, rfl⟩
                        have HNX : As (fanL K ++ rowsL (D ++ [kyOf ids tb]) = Y ++ Z ++ twoI tb) := ⟨by
                          rw [rows_app, hkb, hZ, ← hY]
                          simp [kyOf, List.append_assoc]⟩
                        rw [hY] at HR hRl
                        rw [hZ] at hrc hrl
                        have HRC := As.mk hrc
                        have HST := As.mk hstep
                        have HTB := As.mk htb
                        have hl1 : (Y.length + 32) * 1 ≤ 140737488355328 := by omega
                        have hl2 : ((Y ++ Z).length + 2) * 1 ≤ 140737488355328 := by rw [List.length_append, hrl]; omega
                        have e0 : decide ((m : Int) + 1 < (m : Int) + 1) = false := decide_eq_false (by omega)
                        clear hkb hsb hnb hstep hY hZ hrc HMin htb
                        go_wp2_with (fail)
                        refine (HRC.out _).mono ?_
                        rintro e wb ⟨vb, rfl, hRb, hb9⟩
                        have HR1 := As.mk (Kd.R_below HR.out hb9)
                        have HO1 := As.mk (Kd.R_below HO.out hb9)
                        have HB1 : As (Below w.heap.size w wb) := ⟨HB.out.trans (hb9.mono HB.out.size)⟩
                        obtain ⟨Ab, cb, rfl, hcb2, hCb⟩ := Kd.R_reads hRb
                        rw [hrl] at hCb ⊢
                        have HCb := As.mk hCb
                        clear hb9 hRb hCb HR HO HB hcb hcsb HRC hcb2
                        go_wp2_with (first
                          | ((with_reducible refine gate_builtin (b := .append) (xs := #[.tmp 105, .tmp 113]) rfl ?_); at_builtin; refine Kd.R_append_rows (Kd.int .u8) (Rr := (Kd.int .u8).K wb) (w0 := w) w.heap.size rfl (.tmp 105) (.tmp 113) 23 5 (.int .u8 0) 1 rfl Try.underlying23 info_u8 rfl (by decide) (by decide) u5 Y Z Ab 32 cb (fun _ => True) (fun _ => False) rfl rfl HR1.out HCb.out (fun _ _ h => h) (fun _ hk => hk.elim) (fun _ _ => trivial) HB1.out HB1.out.size hl1 ?_; intro v1 w1 ho hb1 hg hat; have HR2 := As.mk ho; have HB2 := As.mk hb1; have HO2 := As.mk (Kd.R_over HO1.out HR1.out (by decide) hg); obtain ⟨a8, ha8, hc8⟩ := left_at HO2.out b hbL; obtain rfl := Option.some.inj ha8; rw [HTB.out] at hc8; clear ho hb1 hat hg ha8)
                          | fail)
                        refine (rtwo_calls tb (by omega) _).mono ?_
                        rintro e wd ⟨vd, rfl, hRd, hd9⟩
                        have HR3 := As.mk (Kd.R_below HR2.out hd9)
                        have HO3 := As.mk (Kd.R_below HO2.out hd9)
                        have HB3 : As (Below w.heap.size w wd) := ⟨HB2.out.trans (hd9.mono HB2.out.size)⟩
                        obtain ⟨Ad, cd, rfl, hcd2, hCd⟩ := Kd.R_reads hRd
                        have HCd := As.mk hCd
                        clear hd9 hRd hCd HR1 HO1 HB1 HR2 HO2 HB2 hc8 hcd2
                        have hk3 := (Kd.R_reads' HO3.out).2
                        rw [intsOf_len, HM.out] at hk3
                        obtain ⟨n1, r1, hr1, hl1', hc1, hs1, hC1⟩ := slice_take_i (some a6) (m + 1) c6 (intsOf L) (b : Int) (by omega) (by rw [intsOf_len]; exact HM.out) (by omega) hk3.1
                        obtain ⟨A2, n2, c2, r2, hr2, hl2', hc2', hs2, hC2⟩ := slice_drop_i (some a6) (m + 1) c6 (intsOf L) ((b : Int) + 1) (by omega) (by rw [intsOf_len]; exact HM.out) (by omega) hk3.1
                        rw [Int.toNat_natCast] at hr1
                        rw [show ((b : Int) + 1).toNat = b + 1 by omega] at hr2
                        have HRR : As (([] : List Int) ++ r1 ++ r2 = intsOf (L.take b ++ L.drop (b + 1))) := ⟨by rw [← hr1, ← hr2, List.nil_append, intsOf, intsOf, List.map_append, List.map_take, List.map_drop]⟩
                        have hl1 : (([] : List Int).length + n1) * 8 ≤ 140737488355328 := by
                          rw [← hl1', ← hr1, List.length_take, intsOf_len, List.length_nil]; omega
                        have hl2 : ((([] : List Int) ++ r1).length + n2) * 8 ≤ 140737488355328 := by
                          rw [List.nil_append, ← hl2', ← hr1, ← hr2, List.length_take, List.length_drop, intsOf_len, HM.out]; omega
                        have HLL : As ((L.take b ++ L.drop (b + 1)).length = m) := ⟨by rw [List.length_append, List.length_take, List.length_drop, HM.out]; omega⟩
                        have HF1 := As.mk hC1
                        have HF2 := As.mk hC2
                        clear hk3 hr1 hr2 hl1' hl2' hC1 hC2
                        have hl3 : ((Y ++ Z).length + 2) * 1 ≤ 140737488355328 := by rw [List.length_append, hrl]; omega
                        go_wp2_with (first
                          | ((with_reducible refine gate_builtin (b := .append) (xs := #[.tmp 115, .tmp 120]) rfl ?_); at_builtin; refine Kd.R_append_rows (Kd.int .u8) (Rr := (Kd.int .u8).K wd) (w0 := w) w.heap.size rfl (.tmp 115) (.tmp 120) 23 5 (.int .u8 0) 1 rfl Try.underlying23 info_u8 rfl (by decide) (by decide) v1 (Y ++ Z) (twoI tb) Ad 2 cd (fun _ => True) (fun _ => False) rfl rfl HR3.out HCd.out (fun _ _ h => h) (fun _ hk => hk.elim) (fun _ _ => trivial) HB3.out HB3.out.size hl3 ?_; intro v3 wz ho hb1 hg hat; have HR4 := As.mk ho; have HB4 := As.mk hb1; have HO4 := As.mk (Kd.R_over HO3.out HR3.out (by decide) hg); have HBz := As.mk hb1; clear ho hb1 hg hat)
                          | fail)
                        have hk4 := (Kd.R_reads' HO4.out).2.2
                        rw [intsOf_len, HM.out] at hk4
                        have HCd1 := As.mk (Kd.C_drew (HF1.out wz hk4))
                        have HCd2 := As.mk (Kd.C_drew (HF2.out wz hk4))
                        clear hk4 HF1 HF2 HR3 HO3 HB3 HBz HCd HCb
                        have hwb : wrap64 ((b : Int) + 1) = (b : Int) + 1 := by unfold wrap64; omega
                        refine start_ (n := 11) (S := fun w' => Below (wz).drew.heap.size (wz).drew w') (ds := []) #[false, false, false, false, false, false, false, false, false, false, false] (by kernel_rfl) rfl rfl (Below.refl _ _) (fun hHeld => ?_)
                        refine pure_ (i := 1) (N := some 123) (v := ?_) (a' := ?_) #[false, true, false, false, false, false, false, false, false, false, false] rfl rfl (by kernel_rfl) (fun _ _ _ h => h) (Or.inl ⟨by rfl, ?_⟩) ?_ ?_
                        rotate_left
                        · intro w'
                          go_simp
                          with_reducible rfl
                        rotate_left
                        · simp only [Act.put, List.setIfInBounds_toArray, List.set_cons_zero, List.set_cons_succ, i64_w, i32_w]
                          rfl
                        refine pure_ (i := 2) (N := some 124) (v := ?_) (a' := ?_) #[false, true, true, false, false, false, false, false, false, false, false] rfl rfl (by kernel_rfl) (fun _ _ _ h => h) (Or.inl ⟨by rfl, ?_⟩) ?_ ?_
                        rotate_left
                        · intro w'
                          go_simp
                          with_reducible rfl
                        rotate_left
                        · simp only [Act.put, List.setIfInBounds_toArray, List.set_cons_zero, List.set_cons_succ, i64_w, i32_w]
                          rfl
                        refine pure_ (i := 5) (N := some 127) (v := ?_) (a' := ?_) #[false, true, true, false, false, true, false, false, false, false, false] rfl rfl (by kernel_rfl) (fun _ _ _ h => h) (Or.inl ⟨by rfl, ?_⟩) ?_ ?_
                        rotate_left
                        · intro w'
                          go_simp
                          with_reducible rfl
                        rotate_left
                        · simp only [Act.put, List.setIfInBounds_toArray, List.set_cons_zero, List.set_cons_succ, i64_w, i32_w]
                          rfl
                        refine pure_ (i := 6) (N := some 128) (v := ?_) (a' := ?_) #[false, true, true, false, false, true, true, false, false, false, false] rfl rfl (by kernel_rfl) (fun _ _ _ h => h) (Or.inl ⟨by rfl, ?_⟩) ?_ ?_
                        rotate_left
                        · intro w'
                          go_simp
                          with_reducible rfl
                        rotate_left
                        · simp only [Act.put, List.setIfInBounds_toArray, List.set_cons_zero, List.set_cons_succ, i64_w, i32_w]
                          rfl
                        refine pure_ (i := 7) (N := some 129) (v := ?_) (a' := ?_) #[false, true, true, false, false, true, true, true, false, false, false] rfl rfl (by kernel_rfl) (fun _ _ _ h => h) (Or.inl ⟨by rfl, ?_⟩) ?_ ?_
                        rotate_left
                        · intro w'
                          go_simp
                          with_reducible rfl
                        rotate_left
                        · simp only [Act.put, List.setIfInBounds_toArray, List.set_cons_zero, List.set_cons_succ, i64_w, i32_w]
                          rw [hwb]
                        refine take_ (i := 3) (N := some 125) (v := ?_) (a' := ?_) #[false, true, true, true, false, true, true, true, false, false, false] rfl rfl (by kernel_rfl) (fun _ _ _ h => h) (Or.inl ⟨by rfl, ?_⟩) hHeld ?_ ?_
                        rotate_left
                        · intro w' s0
                          go_simp
                          with_reducible rfl
                        rotate_left
                        · simp only [Act.put, List.setIfInBounds_toArray, List.set_cons_zero, List.set_cons_succ, i64_w, i32_w]
                          rfl
                        refine take_ (i := 8) (N := some 130) (v := ?_) (a' := ?_) #[false, true, true, true, false, true, true, true, true, false, false] rfl rfl (by kernel_rfl) (fun _ _ _ h => h) (Or.inl ⟨by rfl, ?_⟩) hHeld ?_ ?_
                        rotate_left
                        · intro w' s0
                          go_simp
                          with_reducible rfl
                        rotate_left
                        · simp only [Act.put, List.setIfInBounds_toArray, List.set_cons_zero, List.set_cons_succ, i64_w, i32_w]
                          rfl
                        refine one_ (i := 0) (N := some 122) #[true, true, true, true, false, true, true, true, true, false, false] rfl rfl (by kernel_rfl) (by decide) (fun K hK => ?_)
                        refine value_ (v := .slice (some ⟨(wz).drew.heap.size, 0, none⟩) 0 0) (w1 := ((wz).drew.alloc (.cells #[] 3))) rfl rfl ?_ ?_
                        · first | (go_simp; done) | (go_simp; with_reducible rfl)
                        refine hK.out _ _ ((Below.refl _ _).alloc (Nat.le_refl _) _) (fun hHeld => ?_)
                        clear hK K
                        refine norm_ (a' := ?_) ?_ ?_
                        rotate_left
                        · show Act.put _ (some 122) _ = _
                          simp only [Act.put, List.setIfInBounds_toArray, List.set_cons_zero, List.set_cons_succ, i64_w, i32_w]
                          rfl
                        refine one_ (i := 4) (N := some 126) #[true, true, true, true, true, true, true, true, true, false, false] rfl rfl (by kernel_rfl) (by decide) (fun K hK => ?_)
                        have HE := As.mk (own_empty_i (wz).drew (wz).drew.heap.size (Nat.le_refl _))
                        have hbe : Below (wz).drew.heap.size (wz).drew ((wz).drew.alloc (.cells #[] 3)) := (Below.refl _ _).alloc (Nat.le_refl _) _
                        have HC1 := As.mk (Kd.C_below HCd1.out hbe)
                        refine Kd.R_append_rows_step (Kd.int .i64) (Rr := (Kd.int .i64).K ((wz).drew.alloc (.cells #[] 3))) (w0 := (wz).drew) (W := ((wz).drew.alloc (.cells #[] 3))) (wz).drew.heap.size rfl (.tmp 122) (.tmp 125) 54 3 (.int .i64 0) 8 rfl Try.underlying54 info_i rfl (by decide) (by decide) (.slice (some ⟨(wz).drew.heap.size, 0, none⟩) 0 0) [] r1 (some a6) n1 c6 (fun _ => True) (fun _ => False) rfl rfl HE.out HC1.out (fun _ _ h => h) (fun _ hk => hk.elim) (fun _ _ => trivial) hbe hbe.size hl1 ?_
                        intro v4 w4 ho4 hb4 hg4 hat4
                        refine hK.out _ _ (hb4) (fun hHeld => ?_)
                        clear hK K
                        refine norm_ (a' := ?_) ?_ ?_
                        rotate_left
                        · show Act.put _ (some 126) _ = _
                          simp only [Act.put, List.setIfInBounds_toArray, List.set_cons_zero, List.set_cons_succ, i64_w, i32_w]
                          rfl
                        refine one_ (i := 9) (N := some 131) #[true, true, true, true, true, true, true, true, true, true, false] rfl rfl (by kernel_rfl) (by decide) (fun K hK => ?_)
                        have HC2 := As.mk (Kd.C_below HCd2.out hb4)
                        refine Kd.R_append_rows_step (Kd.int .i64) (Rr := (Kd.int .i64).K w4) (w0 := (wz).drew) (W := w4) (wz).drew.heap.size rfl (.tmp 126) (.tmp 130) 54 3 (.int .i64 0) 8 rfl Try.underlying54 info_i rfl (by decide) (by decide) v4 ([] ++ r1) r2 A2 n2 c2 (fun _ => True) (fun _ => False) rfl rfl ho4 HC2.out (fun _ _ h => h) (fun _ hk => hk.elim) (fun _ _ => trivial) hb4 hb4.size hl2 ?_
                        intro v5 w5 ho5 hb5 hg5 hat5
                        refine hK.out _ _ (hb5) (fun hHeld => ?_)
                        clear hK K
                        refine norm_ (a' := ?_) ?_ ?_
                        rotate_left
                        · show Act.put _ (some 131) _ = _
                          simp only [Act.put, List.setIfInBounds_toArray, List.set_cons_zero, List.set_cons_succ, i64_w, i32_w]
                          rfl
                        refine pure_ (i := 10) (N := some 6) (v := ?_) (a' := ?_) #[true, true, true, true, true, true, true, true, true, true, true] rfl rfl (by kernel_rfl) (fun _ _ _ h => h) (Or.inl ⟨by rfl, ?_⟩) ?_ ?_
                        rotate_left
                        · intro w'
                          go_simp
                          with_reducible rfl
                        rotate_left
                        · simp only [Act.put, List.setIfInBounds_toArray, List.set_cons_zero, List.set_cons_succ, i64_w, i32_w]
                          rfl
                        refine done_ (by kernel_rfl) ?_
                        have hbz : Below wz.heap.size wz w5 := (Below.refl _ wz).drew.trans (hb5.mono (Nat.le_refl _))
                        have HB5 : As (Below w.heap.size w w5) := ⟨HB4.out.trans (hbz.mono HB4.out.size)⟩
                        have HR5 := As.mk (Kd.R_below HR4.out hbz)
                        have HO5 := As.mk (Kd.R_lower ho5 (base' := w.heap.size) HB4.out.size)
                        rw [HRR.out] at HO5
                        obtain ⟨A7, c7, rfl, _⟩ := Kd.R_reads HO5.out
                        rw [intsOf_len, HLL.out] at HO5 ⊢
                        rw [← HNX.out] at HR5
                        clear hbz hb4 hb5 hHeld ho4 ho5 hg4 hg5 hat4 hat5
                        refine ⟨?_, by simp [slLen]⟩
                        repeat apply Exists.intro
                        refine ⟨?_, rfl⟩
                        exact ⟨D ++ [kyOf ids tb], L.take b ++ L.drop (b + 1), HST, ⟨A7, c7, by rw [HLL.out]⟩, HR5, HO5, HB5⟩
end Go.Proofs.Ytonhmjodgomeiaa.Ix
