/- Joined texts: IxPut, IxRows, IxNum, IxRight, IxAll. No condition but what stands in each. -/
import Derived.Test.YtonhmjodgomeiaaMIxA
import Derived.Shelf.SlSortCmp.NoneTotal
import Derived.Great.BuildSlice
import Derived.Laws.BitsLemmas
import Derived.Laws.OwnMore
/- index.Put: the index of any names, or the error. No condition but the reach of what comes in. -/
namespace Go.Proofs.Ytonhmjodgomeiaa.Ix
set_option linter.unusedVariables false
set_option linter.unusedSimpArgs false
open Go.RowKit Blk Dg Go.Proofs.YtonhmjodgomeiaaW.PrintWords Go.Proofs.YtonhmjodgomeiaaW.PrintLast Go.Proofs.YtonhmjodgomeiaaW.PrintMore

theorem index_256 (V : Array Value) (q : Nat) (v : Value) (hq : q < 256) (hV : V.size = 256) (hv : V[q]? = some v) (w : World) :
    (Instr.index 43 (.agg V) (.int .i64 (q : Int))).run Try.prog w = .ok v w := by
  have hs : (Try.prog.info? 3).map (·.size) = some 1 := by kernel_rfl
  obtain ⟨inf, h1, h2⟩ := Option.map_eq_some_iff.1 hs
  have h3 : (q : Int) < 256 := by omega
  simp [Instr.index, asIntOf, Try.underlying43, h3, sizeOf, typeInfo, h1, h2, part, hV, hq]
  exact (Array.getElem?_eq_some_iff.1 hv).2
theorem guard_32 : Try.prog.eqGuardType Try.prog.depth 45 = false := by kernel_rfl
theorem wr_pred (r : Nat) (h : r < 65536) : wrap64 (((r + 1 : Nat) : Int) - 1) = r := by unfold wrap64; omega
theorem range_below {W W' : World} {g o : Nat} {cs : List Value} (h : W.rangeAt g o cs) (hb : Below W.heap.size W W') : W'.rangeAt g o cs := fun j v hv =>
  (hb.cell (World.block_lt_of_cell? _ _ (h j v hv))).trans (h j v hv)
theorem load_run {P : Program} {o : Oper} {a : Act} {W : World} (ty : TypeId) (x : Operand) (ho : o.op = .load ty x) (b f : Nat) (hx : a.eval x = .pointer (some ⟨b, f, none⟩)) (cs : Array Value)
    (h : (Instr.loadAt ty (.pointer (some ⟨b, f, none⟩))).run P W = .ok (.agg cs) W) : (execOp a.eval o).run P W = .ok (.value (.agg cs)) W := by
  unfold execOp
  simp only [ho, hx, Sem.run_bind, h, Result.andThen_ok]
  rfl
theorem fan_len (K : List (List Int)) (q : Nat) : ((List.range q).flatMap fun j => twoI (cntN K j)).length = 2 * q := by
  induction q with
  | zero => rfl
  | succ q ih => rw [List.range_succ, List.flatMap_append, List.length_append, ih]; simp [twoI]; omega
theorem fan_snoc (K : List (List Int)) (q : Nat) : ((List.range (q + 1)).flatMap fun j => twoI (cntN K j)) = ((List.range q).flatMap fun j => twoI (cntN K j)) ++ twoI (cntN K q) := by
  rw [List.range_succ, List.flatMap_append]; simp
theorem twoI_eq (m : Nat) (h : m ≤ 512) : twoI m = [(m : Int) / 256, (m : Int) % 256] := by
  rw [twoI]
  congr 1
  omega
theorem fanL_len (K : List (List Int)) : (fanL K).length = 512 := fan_len K 256
theorem rowsL_len (Ms : List Ln) : (rowsL (Ms.map lnOf)).length = 34 * Ms.length := by
  induction Ms with
  | nil => rfl
  | cons x r ih => rw [List.map_cons, rowsL, List.flatMap_cons, ← rowsL, List.length_append, ih]; simp [lnOf, twoI, x.len]; omega
theorem rows_snoc (Ms : List Ln) (q : Nat) (x : Ln) (h : Ms[q]? = some x) : rowsL ((Ms.take (q + 1)).map lnOf) = rowsL ((Ms.take q).map lnOf) ++ (x.id ++ twoI x.pl) := by
  rw [List.take_add_one, h, List.map_append, rowsL, List.flatMap_append, ← rowsL]
  simp [lnOf]
theorem pl_lt (ids : List ByteArray) (Ls Ms : List Ln) (x : Ln) (n : Nat) (hn : ids.length = n) (hk : Ls.map lnOf = keysOf ids) (hp : Ms.Perm Ls) (hx : x ∈ Ms) : x.pl < n := by
  have h1 : lnOf x ∈ keysOf ids := by rw [← hk]; exact List.mem_map.2 ⟨x, hp.subset hx, rfl⟩
  obtain ⟨p, hp1, hp2⟩ := List.mem_map.1 h1
  have h3 := List.mem_zipIdx hp1
  have : p.2 = x.pl := congrArg Prod.snd hp2
  omega
theorem line_pl (x : Ln) (xb m : Nat) (wc w5 : World) (row : Option Nat) (h : Row wc xb 48 (encLn x)) (hm : x.pl = m) (hg : wc.drew.grownBy w5 row) (hne : row ≠ some xb) (b : Nat) (hb : b = xb) : w5.cell? ⟨b, 32, none⟩ = some (.int .i64 (m : Int)) := by
  subst hb
  have h2 : Row w5 b 48 (encLn x) := (Row.drew h).grown hg hne
  refine h2.cell ?_
  have : (x.id.map (Value.int .u8)).length = 32 := by rw [List.length_map, x.len]
  rw [encLn, List.getElem?_append_right (by omega), this, ← hm]
  rfl
theorem put_twice (ids : List ByteArray) (Ls Ms : List Ln) (p x : Ln) (r : Nat) {i : Nat} (hn : ids.length = i) (h512 : ¬ 512 < i) (ha : ids.all (fun s => namedL (bytesOf s)) = true) (hk : Ls.map Ln.id = ids.map rawL) (hp : Ms.Perm Ls) (h1 : Ms[r]? = some p) (h2 : Ms[r + 1]? = some x) (he : p.id = x.id) : (91 : Int) = putE ids := by
  rw [putE, if_neg (by omega), if_neg (by rw [ha]; decide), if_neg]
  intro hnd
  have hnd2 : (Ms.map Ln.id).Nodup := ((hp.map Ln.id).nodup_iff).2 (by rw [hk]; exact hnd)
  rw [List.nodup_iff_pairwise_ne, List.pairwise_iff_getElem] at hnd2
  have hr : r < Ms.length := (List.getElem?_eq_some_iff.1 h1).1
  have hr2 : r + 1 < Ms.length := (List.getElem?_eq_some_iff.1 h2).1
  have := hnd2 r (r + 1) (by simpa using hr) (by simpa using hr2) (by omega)
  rw [List.getElem_map, List.getElem_map, (List.getElem?_eq_some_iff.1 h1).2, (List.getElem?_eq_some_iff.1 h2).2] at this
  exact this he
theorem twoI_8 (n : Nat) : ∀ y ∈ twoI n, 0 ≤ y ∧ y < 256 := by
  intro y hy
  simp only [twoI, List.mem_cons, List.not_mem_nil, or_false] at hy
  rcases hy with rfl | rfl <;> omega
theorem bodyL_8 (K : List (List Int)) (Ms : List Ln) : ∀ y ∈ bodyL K (Ms.map lnOf), 0 ≤ y ∧ y < 256 := by
  intro y hy
  rcases List.mem_append.1 hy with h | h
  · obtain ⟨c, _, h⟩ := List.mem_flatMap.1 h
    exact twoI_8 _ y h
  · obtain ⟨p, hp, h⟩ := List.mem_flatMap.1 h
    obtain ⟨x, _, rfl⟩ := List.mem_map.1 hp
    rcases List.mem_append.1 h with h | h
    · exact x.b8 y h
    · exact twoI_8 _ y h
theorem put_ok (ids : List ByteArray) (Ls Ms : List Ln) {i : Nat} (hn : ids.length = i) (h512 : ¬ 512 < i) (ha : ids.all (fun s => namedL (bytesOf s)) = true) (hk : Ls.map Ln.id = ids.map rawL) (hk2 : Ls.map lnOf = keysOf ids) (hp : Ms.Perm Ls) (hs : Ms.Pairwise (fun a b => cmpL a.id b.id < 0)) :
    PutR ids (bodyL (Ls.map Ln.id) (Ms.map lnOf) ++ shaL (bodyL (Ls.map Ln.id) (Ms.map lnOf))) 0 := by
  have hst : Srt (Ms.map lnOf) := by rw [Srt, List.pairwise_map]; exact hs
  have hpm : (Ms.map lnOf).Perm (keysOf ids) := by rw [← hk2]; exact hp.map lnOf
  refine ⟨?_, fun _ => ⟨Ms.map lnOf, hpm, hst, by rw [hk]⟩, fun h => absurd rfl h⟩
  have hnd := srt_nodup hst
  rw [putE, if_neg (by omega), if_neg (by rw [ha]; decide), if_pos]
  rw [← keysOf_fst]
  exact ((hpm.map Prod.fst).nodup_iff).1 hnd
theorem C_row (W : World) (b : Nat) (S : List Int) (n : Nat) (fz : Nat × Nat) (h : W.heap[b]? = some (.cells (S.map (Value.int .u8)).toArray 45 fz)) (hS : S.length = n) (hn : n ≤ 9223372036854775807) : (Kd.int .u8).C W (some ⟨b, 0, none⟩) n S := by
  refine Kd.C_of_reads (enc := Value.int .u8) (d := (0 : Int)) ⟨hS, hn, fun _ => ⟨_, rfl, fun j hj => ?_⟩⟩
  have hjl : j < S.length := by omega
  have e : (⟨b, 0, none⟩ : Addr).add j = ⟨b, j, none⟩ := by unfold Addr.add; split <;> simp_all
  rw [e]
  simp [World.cell?, h, rdOf, hjl]
set_option maxHeartbeats 4000000 in
set_option maxRecDepth 100000 in
theorem put_calls (A : Option Addr) (c n : Nat) (ids : List ByteArray) (w : World) (hC : Kd.string.C w A n ids) (hn : ids.length = n) (hc : n ≤ c) (hz : ∀ s ∈ ids, s.size ≤ 4611686018427387904) :
    Calls Try.prog 11 #[.slice A n c] w fun e w' => ∃ v b z, e = .returned (.tuple #[v, .int .i64 z]) ∧ PutR ids b z ∧ (Kd.int .u8).R 5 w' w.heap.size (fun _ => True) v b ∧ Below w.heap.size w w' := by
  have HC := As.mk hC
  have HN := As.mk hn
  have HZ := As.mk hz
  clear hC hn hz
  by_cases h512 : 512 < n
  · have hP : As (PutR ids [] 2) := ⟨by rw [putE, if_pos (by rw [HN.out]; exact h512)], fun h => absurd h (by decide), fun _ => rfl⟩
    go_enter Try.func11, Try.ntmps11
    go_wp2_with (fail)
    go_ret2
    exact ⟨_, [], 2, rfl, hP.out, Kd.R_nil _ _ _ _ _, Below.refl _ _⟩
  · obtain ⟨Z, hZ⟩ : ∃ Z, (List.replicate 256 (Value.int .i64 0)).toArray = Z := ⟨_, rfl⟩
    have hz256 := zero_256
    rw [hZ] at hz256
    obtain ⟨ZL, hZL⟩ : ∃ ZL, zLn.toArray = ZL := ⟨_, rfl⟩
    have hzln := zero_line
    rw [hZL] at hzln
    obtain ⟨cb, hcb⟩ : ∃ cb, w.heap.size = cb := ⟨_, rfl⟩
    obtain ⟨w1, hw1⟩ : ∃ w1, w.alloc (.cells Z 43) = w1 := ⟨_, rfl⟩
    have HCb : As (Row w1 cb 43 (cntV [])) := ⟨by rw [← hw1, ← hZ, cntV_nil, ← hcb]; exact Row.new w _ _⟩
    have HB1 : As (Below cb w w1) := ⟨by rw [← hw1, ← hcb]; exact (Below.refl _ w).alloc (Nat.le_refl _) _⟩
    have HL1 : As (cb < w1.heap.size) := ⟨HCb.out.lt⟩
    have HZL := As.mk hZL
    have HCB := As.mk hcb
    have HW1 := As.mk hw1
    clear hZ hZL hcb hw1
    go_enter Try.func11, Try.ntmps11
    go_wp2_with (fail)
    rw [HW1.out, HCB.out]
    clear HW1 hz256
    go_loopw [4, 21] (fun v4 v21 wr => ∃ (i : Nat) (Ls : List Ln), v21 = .int .i64 i ∧ i ≤ n ∧ Ls.length = i ∧ As (Ls.map lnOf = (keysOf ids).take i) ∧ As ((ids.take i).all (fun s => namedL (bytesOf s)) = true) ∧ As (Row wr cb 43 (cntV (Ls.map Ln.id))) ∧
      As (wr.ownsRow (cb + 1) 48 33 v4 i (linesV Ls)) ∧ As (Below cb w wr) ∧ As (cb < wr.heap.size)) (fun _ v21 _ => n - (intOf v21).toNat)
    case atStart => exact ⟨0, [], rfl, by omega, rfl, ⟨by simp⟩, ⟨by simp⟩, HCb, ⟨World.ownsRow_nil _ _ _ _⟩, HB1, HL1⟩
    case round =>
      clear HCb HB1 HL1
      obtain ⟨i, Ls, rfl, hi, hLs, HK, HA, HCn, HO, HB, HLt⟩ := hrel
      by_cases hlt : i < n
      · have hil : i < ids.length := by rw [HN.out]; exact hlt
        have HBn : As (Below w.heap.size w wr) := ⟨by rw [HCB.out]; exact HB.out⟩
        obtain ⟨ad, rfl, hcell⟩ := Kd.at_string (Kd.C_below HC.out HBn.out) (i : Int) (by omega) (by omega)
        rw [Int.toNat_natCast] at hcell
        obtain ⟨s, hs⟩ : ∃ s, rdOf ByteArray.empty ids (i : Int) = s := ⟨_, rfl⟩
        have hsi : ids[i]? = some s := by rw [← hs]; simp [rdOf, hil]
        rw [hs] at hcell
        have hss := HZ.out s (List.mem_of_getElem? hsi)
        have HSI := As.mk hsi
        clear hs hil hsi
        go_wp2_with (fail)
        refine (named_calls s _ hss).mono ?_
        rintro e wa ⟨rfl, ka⟩
        have HBa : As (Below cb w wa) := ⟨HB.out.trans (ka.mono (Nat.le_of_lt HLt.out))⟩
        have HCa := As.mk (HCn.out.below' ka)
        have HOa : As (wa.ownsRow (cb + 1) 48 33 u4 i (linesV Ls)) := ⟨own_move HO.out (fun k hk => ka.block k (own_lt HO.out k hk))⟩
        have HLa : As (cb < wa.heap.size) := ⟨Nat.lt_of_lt_of_le HLt.out ka.size⟩
        clear ka hcell HBn HB HCn HO HLt
        by_cases hnm : namedL (bytesOf s) = true
        · rw [hnm]
          have HNM := As.mk hnm
          obtain ⟨x, hxi, hxp⟩ : ∃ x : Ln, rawL s = x.id ∧ x.pl = i := ⟨⟨rawL s, i, rawL_len hnm, rawL_8 hnm⟩, rfl, rfl⟩
          have hrw := fun W => raw_calls s W hnm
          rw [hxi] at hrw
          have HRW := As.mk hrw
          have HXI := As.mk hxi
          have HXP := As.mk hxp
          clear hrw hxi hxp
          go_wp2_with (fail)
          refine (HRW.out _).mono ?_
          rintro e wb ⟨rfl, kb⟩
          have HBb : As (Below cb w wb) := ⟨HBa.out.trans (kb.mono (Nat.le_of_lt HLa.out))⟩
          have HCb := As.mk (HCa.out.below' kb)
          have HOb : As (wb.ownsRow (cb + 1) 48 33 u4 i (linesV Ls)) := ⟨own_move HOa.out (fun k hk => kb.block k (own_lt HOa.out k hk))⟩
          have HLb : As (cb < wb.heap.size) := ⟨Nat.lt_of_lt_of_le HLa.out kb.size⟩
          clear kb HBa HCa HOa HLa HRW
          obtain ⟨X, hX⟩ : ∃ X, (x.id.map (Value.int .u8)).toArray = X := ⟨_, rfl⟩
          have HXX := As.mk hX
          obtain ⟨L, hL⟩ : ∃ L, (encLn x).toArray = L := ⟨_, rfl⟩
          have hbd := fun W => build_line x X L i hX hL (by have := HXP.out; omega) W
          have HLL := As.mk hL
          rw [hX]
          obtain ⟨xb, hxb⟩ : ∃ xb, wb.heap.size = xb := ⟨_, rfl⟩
          obtain ⟨wc, hwc⟩ : ∃ wc, (wb.alloc (.cells ZL 48)).setRow xb L = wc := ⟨_, rfl⟩
          have HRx0 : As ((wb.alloc (.cells ZL 48)).heap[xb]? = some (.cells ZL 48 (0, 0))) := ⟨by
            have := Row.new wb zLn 48
            unfold Row at this
            rw [HZL.out, hxb] at this
            exact this⟩
          have HZs : As (ZL.size = 33) := ⟨by rw [← HZL.out]; rfl⟩
          have HLs : As (L.size = 33) := ⟨by rw [← hL, List.size_toArray, encLn_len]⟩
          have HL1 : As (L.all (·.oneCell') = true) := ⟨by rw [← hL]; simpa using encLn_one x⟩
          obtain ⟨y, hy, hy8⟩ : ∃ y : Nat, x.id.head? = some (y : Int) ∧ y < 256 := by
            obtain ⟨z, r, hr⟩ : ∃ z r, x.id = z :: r := by
              have := x.len
              rcases hq : x.id with _ | ⟨z, r⟩
              · rw [hq] at this; cases this
              · exact ⟨z, r, rfl⟩
            have := x.b8 z (by rw [hr]; exact List.mem_cons_self)
            exact ⟨z.toNat, by rw [hr]; show some z = _; congr 1; omega, by omega⟩
          have HRx : As (Row wc xb 48 (encLn x)) := ⟨by
            rw [← hwc]; unfold Row
            rw [hL]
            exact setRow_heap _ _ _ _ _ _ HRx0.out⟩
          have hcx : wc.cell? ⟨xb, 0, none⟩ = some (.int .u8 (y : Int)) := HRx.out.cell (by
            rcases hq : x.id with _ | ⟨z, r⟩
            · rw [hq] at hy; cases hy
            · rw [hq] at hy
              rw [encLn, hq, ← Option.some.inj hy]; rfl)
          rw [← hxb] at hcx
          have HY := As.mk hy
          have HXB := As.mk hxb
          have HWC := As.mk hwc
          clear hX hL hxb hwc hy
          go_wp2_with (first
            | (refine build_event rfl 48 #[(0, .tmp 30), (1, .tmp 31)] rfl (.agg L) (by unfold execOp; simp [Act.eval, hbd]) ?_)
            | (refine wpList_store_row rfl 48 (.tmp 8) (.tmp 32) rfl xb L (by rw [← HXB.out]; rfl) rfl 48 ZL HRx0.out (by rw [size_line, HLs.out]) (by rw [HZs.out, HLs.out]) HL1.out ?_; rw [HWC.out])
            | fail)
          have HCc : As (Row wc cb 43 (cntV (Ls.map Ln.id))) := ⟨by
            rw [← HWC.out]; exact (HCb.out.alloc _).setRow_ne (by have := HLb.out; have := HXB.out; omega) _⟩
          have HOc : As (wc.ownsRow (cb + 1) 48 33 u4 i (linesV Ls)) := ⟨own_move HOb.out (fun k hk => by
            have hk2 := own_lt HOb.out k hk
            rw [← HWC.out, setRow_other _ _ _ _ (by have := HXB.out; omega)]
            exact Below.heap_alloc wb _ k hk2)⟩
          have HBc : As (Below cb w wc) := ⟨by
            rw [← HWC.out]; exact below_setRow (HBb.out.alloc (Nat.le_of_lt HLb.out) _) (by have := HLb.out; have := HXB.out; omega) _⟩
          have HLc : As (cb < wc.heap.size) := ⟨HCc.out.lt⟩
          have HXc : As (cb ≠ xb) := ⟨by have := HLb.out; have := HXB.out; omega⟩
          clear HCb HOb HBb hcx HRx0 HZs HL1 hbd
          obtain ⟨K, hKe⟩ : ∃ K, Ls.map Ln.id = K := ⟨_, rfl⟩
          rw [hKe] at HCc
          have hKl : K.length = i := by rw [← hKe, List.length_map, hLs]
          have HKE := As.mk hKe
          clear hKe
          go_loopw [9] (fun v9 wi => ∃ q : Nat, v9 = .int .i64 q ∧ y ≤ q ∧ q ≤ 256 ∧ As (Row wi cb 43 (mixV K y q)) ∧ As (But wc.heap.size cb wc wi)) (fun v9 _ => 256 - (intOf v9).toNat)
          case atStart => exact ⟨y, rfl, Nat.le_refl _, by omega, ⟨by rw [mixV_start]; exact HCc.out⟩, ⟨But.refl _ _ _⟩⟩
          case round =>
            clear HCc
            obtain ⟨q, rfl, hyq, hq, HM, HU⟩ := hrel
            by_cases hq2 : q < 256
            · have hcl := HM.out.cell (mixV_at K y q hyq hq2)
              have hfr := HM.out.free q none
              have hcn := cntN_le K q
              obtain ⟨m, hm⟩ : ∃ m, cntN K q = m := ⟨_, rfl⟩
              rw [hm] at hcl hcn
              have hm2 : m ≤ 512 := by omega
              have HMM := As.mk hm
              clear hm hcn
              go_wp2_with (fail)
              exact ⟨⟨q + 1, by go_num, by omega, by omega, ⟨by rw [← mixV_set K y q hyq hq2, HMM.out]; exact HM.out.set q _⟩, ⟨HU.out.setCell (.inl rfl) _⟩⟩, by simp [intOf]; omega⟩
            · have : q = 256 := by omega
              subst this
              have HCr : As (Row wr cb 43 (cntV (K ++ [x.id]))) := ⟨by rw [← mixV_end K x.id y HY.out]; exact HM.out⟩
              have HRr : As (wr.heap[xb]? = some (.cells L 48 (0, 0))) := ⟨by
                have := HRx.out.but HRx.out.lt (Ne.symm HXc.out) HU.out
                unfold Row at this
                rw [HLL.out] at this
                exact this⟩
              have HOr : As (wr.ownsRow (cb + 1) 48 33 u4 i (linesV Ls)) := ⟨own_move HOc.out (fun k hk => HU.out.block k (own_lt HOc.out k hk) (by have := own_base HOc.out k hk; omega))⟩
              have HBr : As (Below cb w wr) := ⟨HBc.out.trans (HU.out.below (Nat.le_refl _) (Nat.le_of_lt HLc.out))⟩
              have HLr : As (cb < wr.heap.size) := ⟨HCr.out.lt⟩
              have hb1 := fun W => run_build1 x L HLL.out W
              have hl40 : (i + 1) * 40 ≤ 140737488355328 := by omega
              clear HM HU HOc HBc HRx HLc
              go_wp2_with (first
                | (refine wpList_load_row rfl 48 (.tmp 8) rfl xb (by rw [← HXB.out]; rfl) 48 L (0, 0) _ HRr.out Try.underlying48 rfl (by rw [size_line, HLs.out]) ?_)
                | (refine bs_event rfl 42 1 #[(0, .tmp 47)] rfl (.slice (some ⟨wr.heap.size, 0, none⟩) 1 1) (wr.alloc (.cells (encLn x).toArray 48)) (by unfold execOp; simp [Act.eval, Act.put, hb1]) ?_)
                | ((with_reducible refine gate_builtin (b := .append) (xs := #[.tmp 46, .tmp 48]) rfl ?_); at_builtin; refine print_append_cells (w0 := wr) (W := wr) (cb + 1) rfl (.tmp 46) (.tmp 48) 42 48 (.agg zLn.toArray) 33 40 rfl Try.underlying42 info_line rfl (by decide) (by decide) u4 i (linesV Ls) (encLn x) rfl rfl (encLn_len x) (encLn_one x) HOr.out (Below.refl _ _) HLr.out hl40 ?_; intro vd wd ho hb hg hat; have HOd := As.mk ho; have HGd := As.mk hb; clear ho hb hg hat)
                | fail)
              have HBd : As (Below cb w wd) := ⟨HBr.out.trans (HGd.out.mono (by omega))⟩
              have HCd := As.mk (HCr.out.below (Nat.lt_succ_self cb) HGd.out)
              have HLd : As (cb < wd.heap.size) := ⟨HCd.out.lt⟩
              have HKd : As ((Ls ++ [x]).map lnOf = (keysOf ids).take (i + 1)) := ⟨keys_snoc ids i s x Ls HSI.out HXI.out HXP.out HK.out⟩
              have HAd : As ((ids.take (i + 1)).all (fun s => namedL (bytesOf s)) = true) := ⟨named_snoc ids i s HSI.out HNM.out HA.out⟩
              exact ⟨⟨i + 1, Ls ++ [x], by go_num, by omega, by simp [hLs], HKd, HAd, ⟨by rw [List.map_append, HKE.out]; exact HCd.out⟩, ⟨by rw [linesV, List.flatMap_append]; simpa [linesV] using HOd.out⟩, HBd, HLd⟩, by simp [intOf]; omega⟩
        · rw [Bool.not_eq_true] at hnm
          have hP : As (PutR ids [] 1) := ⟨by
            rw [putE, if_neg (by rw [HN.out]; exact h512), if_pos]
            rw [List.all_eq_false]
            exact ⟨s, List.mem_of_getElem? HSI.out, by rw [hnm]; decide⟩, fun h => absurd h (by decide), fun _ => rfl⟩
          rw [hnm]
          go_wp2_with (fail)
          go_ret2
          exact ⟨_, [], 1, rfl, hP.out, Kd.R_nil _ _ _ _ _, by rw [HCB.out]; exact HBa.out⟩
      · have hin : i = n := by omega
        subst hin
        have HK2 : As (Ls.map lnOf = keysOf ids) := ⟨by rw [HK.out]; exact List.take_of_length_le (by rw [keysOf_len, HN.out]; exact Nat.le_refl _)⟩
        have HA2 : As (ids.all (fun s => namedL (bytesOf s)) = true) := ⟨by have := HA.out; rwa [List.take_of_length_le (by rw [HN.out]; exact Nat.le_refl _)] at this⟩
        obtain ⟨Al, cl, rfl⟩ : ∃ Al cl, u4 = .slice Al i cl := by
          rcases HO.out.2 with ⟨h1, h2⟩ | ⟨g, cap, cur, h1, _⟩
          · exact ⟨none, 0, by rw [h1, h2]⟩
          · exact ⟨_, cap, h1⟩
        have hsc := sort_calls (.slice Al i cl) i (cb + 1) Ls wr HO.out hLs (by omega)
        have HSC := As.mk hsc
        clear hsc HK HA
        go_wp2_with (fail)
        refine HSC.out.mono ?_
        rintro e ws ⟨rfl, Ms, hMp, hMs, hMo, hMg⟩
        have HCs : As (Row ws cb 43 (cntV (Ls.map Ln.id))) := ⟨HCn.out.grown hMg (fun h => by have := own_base HO.out cb h; omega)⟩
        have HBs : As (Below cb w ws) := ⟨HB.out.grown hMg (Nat.le_of_lt HLt.out) (fun k hk => by have := own_base HO.out k hk; omega)⟩
        have HOs := As.mk hMo
        have HMP := As.mk hMp
        have HMS := As.mk hMs
        have HLs : As (cb < ws.heap.size) := ⟨HCs.out.lt⟩
        have hMl : Ms.length = i := by rw [hMp.length_eq, hLs]
        have HCf : As (Ls.map Ln.id = ids.map rawL) := ⟨by
          have := congrArg (List.map Prod.fst) HK2.out
          rw [keysOf_fst, List.map_map] at this
          exact this⟩
        clear hMp hMs hMo hMg HSC HO HB HLt HCn
        obtain ⟨wm, hmk, hOm, hbm⟩ := make_own8 (512 + i * 34 + 32) (512 + (i : Int) * 34 + 32) (by omega) (by omega) ws
        have HCm := As.mk (HCs.out.below' hbm)
        have HBm : As (Below cb w wm) := ⟨HBs.out.trans (hbm.mono (Nat.le_of_lt HLs.out))⟩
        have HOm : As (wm.ownsRow (cb + 1) 48 33 (.slice Al i cl) i (linesV Ms)) := ⟨own_move HOs.out (fun k hk => hbm.block k (own_lt HOs.out k hk))⟩
        obtain ⟨g0, hg0⟩ : ∃ g0, ws.heap.size = g0 := ⟨_, rfl⟩
        rw [hg0] at hmk hOm
        have hg0c : cb < g0 := by rw [← hg0]; exact HLs.out
        have HOlt : As (∀ k, (Value.slice Al i cl).ownBlock = some k → k < g0) := ⟨fun k hk => by rw [← hg0]; exact own_lt HOs.out k hk⟩
        have HR0 := As.mk hOm
        have HGm : As (g0 ≤ wm.heap.size) := ⟨by rw [← hg0]; exact hbm.size⟩
        obtain ⟨CV, hCV⟩ : ∃ CV, (cntV (Ls.map Ln.id)).toArray = CV := ⟨_, rfl⟩
        have HCv : As (wm.heap[cb]? = some (.cells CV 43 (0, 0))) := ⟨by rw [← hCV]; exact HCm.out⟩
        have hCVs : As (CV.size = 256) := ⟨by rw [← hCV]; simp [cntV]⟩
        have HCV := As.mk hCV
        have HG0 := As.mk hg0
        clear hOm hbm hg0 hCV HCs HBs HOs HLs HCm
        go_wp2_with (first
          | (refine wpList_load_row rfl 43 (.tmp 5) rfl cb rfl 43 CV (0, 0) _ HCv.out Try.underlying43 rfl (by rw [size_256, hCVs.out]) ?_)
          | fail)
        clear hmk
        go_loopw [10, 60] (fun v10 v60 wr => ∃ q : Nat, v60 = .int .i64 q ∧ q ≤ 256 ∧ As ((Kd.int .u8).R 5 wr g0 (fun _ => True) v10 ((List.range q).flatMap fun j => twoI (cntN (Ls.map Ln.id) j))) ∧ As (Below g0 wm wr)) (fun _ v60 _ => 256 - (intOf v60).toNat)
        case atStart => exact ⟨0, rfl, by omega, HR0, ⟨Below.refl _ _⟩⟩
        case round =>
          clear HR0
          obtain ⟨q, rfl, hq, HR, HBq⟩ := hrel
          by_cases hq2 : q < 256
          · obtain ⟨m, hm⟩ : ∃ m, cntN (Ls.map Ln.id) q = m := ⟨_, rfl⟩
            have hm2 : m ≤ 512 := by
              have := cntN_le (Ls.map Ln.id) q
              rw [List.length_map] at this
              omega
            have hix := fun W => index_256 CV q (.int .i64 (m : Int)) hq2 hCVs.out (by rw [← HCV.out, List.getElem?_toArray, cntV, List.getElem?_map, List.getElem?_range hq2, ← hm]; rfl) W
            have HMQ := As.mk hm
            clear hm
            have hal : g0 ≤ wr.heap.size := Nat.le_trans HGm.out HBq.out.size
            have HR1 : As ((Kd.int .u8).R 5 (wr.alloc (.cells #[.int .u8 ((m : Int) / 256), .int .u8 ((m : Int) % 256)] 5)) g0 (fun _ => True) u10 ((List.range q).flatMap fun j => twoI (cntN (Ls.map Ln.id) j))) := ⟨Kd.R_alloc HR.out _⟩
            have HB1 : As (Below g0 wm (wr.alloc (.cells #[.int .u8 ((m : Int) / 256), .int .u8 ((m : Int) % 256)] 5))) := ⟨HBq.out.alloc hal _⟩
            have HC2 := As.mk (C_new2 wr ((m : Int) / 256) ((m : Int) % 256))
            have hll : (((List.range q).flatMap fun j => twoI (cntN (Ls.map Ln.id) j)).length + 2) * 1 ≤ 140737488355328 := by
              rw [fan_len]; omega
            have hal2 : g0 ≤ (wr.alloc (.cells #[.int .u8 ((m : Int) / 256), .int .u8 ((m : Int) % 256)] 5)).heap.size := by rw [World.size_alloc]; omega
            have HAL := As.mk hal2
            have HLL2 := As.mk hll
            clear hal hal2 hll
            go_wp2_with (first
              | ((with_reducible refine gate_builtin (b := .append) (xs := #[.tmp 63, .tmp 69]) rfl ?_); at_builtin; refine Kd.R_append_rows (Kd.int .u8) (Rr := (Kd.int .u8).K (wr.alloc (.cells #[.int .u8 ((m : Int) / 256), .int .u8 ((m : Int) % 256)] 5))) (w0 := wm) g0 rfl (.tmp 63) (.tmp 69) 23 5 (.int .u8 0) 1 rfl Try.underlying23 info_u8 rfl (by decide) (by decide) u10 ((List.range q).flatMap fun j => twoI (cntN (Ls.map Ln.id) j)) [(m : Int) / 256, (m : Int) % 256] (some ⟨wr.heap.size, 0, none⟩) 2 2 (fun _ => True) (fun _ => False) rfl rfl HR1.out HC2.out (fun _ _ h => h) (fun _ hk => hk.elim) (fun _ _ => trivial) HB1.out HAL.out HLL2.out ?_; intro v1 w1 ho hb1 hg hat; have HO2 := As.mk ho; have HB2 := As.mk hb1; clear ho hb1 hat hg)
              | fail)
            refine ⟨⟨q + 1, by go_num, by omega, ⟨by rw [fan_snoc, HMQ.out, twoI_eq m hm2]; exact HO2.out⟩, HB2⟩, by simp [intOf]; omega⟩
          · have : q = 256 := by omega
            subst this
            have HR3 : As ((Kd.int .u8).R 5 wr g0 (fun _ => True) u10 (fanL (Ls.map Ln.id) ++ rowsL ((Ms.take 0).map lnOf))) := ⟨by simpa [rowsL, fanL] using HR.out⟩
            have HB3 := HBq
            clear HR HBq
            go_wp2_with (fail)
            go_loopw [10, 74] (fun v10 v74 wt => ∃ q : Nat, v74 = .int .i64 q ∧ q ≤ i ∧ As ((Ms.take q).Pairwise (fun a b => cmpL a.id b.id < 0)) ∧ As ((Kd.int .u8).R 5 wt g0 (fun _ => True) v10 (fanL (Ls.map Ln.id) ++ rowsL ((Ms.take q).map lnOf))) ∧ As (Below g0 wm wt)) (fun _ v74 _ => i - (intOf v74).toNat)
            case atStart => exact ⟨0, rfl, by omega, ⟨by simp⟩, HR3, HB3⟩
            case round =>
              clear HR3 HB3
              obtain ⟨q, rfl, hqi, HS, HR, HBq⟩ := hrel
              by_cases hqi2 : q < i
              · obtain ⟨x, hx⟩ : ∃ x, Ms[q]? = some x := ⟨Ms[q]'(by omega), List.getElem?_eq_getElem _⟩
                obtain ⟨g, cap, cur, hgv, hbg, hh, hnc, hcm, hcs, htk⟩ : ∃ g cap cur, Value.slice Al i cl = .slice (some ⟨g, 0, none⟩) i cap ∧ cb + 1 ≤ g ∧ wm.heap[g]? = some (.cells cur 48 (0, 0)) ∧ i ≤ cap ∧ cap ≤ maxLen ∧ cur.size = cap * 33 ∧ cur.toList.take (i * 33) = linesV Ms := by
                  rcases HOm.out.2 with ⟨_, h2⟩ | h
                  · omega
                  · exact h
                injection hgv with e1 e2 e3
                subst e1 e3
                have hgl : g < g0 := HOlt.out g rfl
                have hh2 : wr.heap[g]? = some (.cells cur 48 (0, 0)) := by rw [HBq.out.block g hgl]; exact hh
                have HRG := As.mk (line_range wr g i q cur Ms x hh2 htk hMl hx)
                have HX := As.mk hx
                have HTK := As.mk htk
                have HH := As.mk hh
                clear hx hh hh2 htk hcs hcm
                obtain ⟨L, hL⟩ : ∃ L, (encLn x).toArray = L := ⟨_, rfl⟩
                obtain ⟨xb, hxb⟩ : ∃ xb, wr.heap.size = xb := ⟨_, rfl⟩
                obtain ⟨wc, hwc⟩ : ∃ wc, (wr.alloc (.cells ZL 48)).setRow xb L = wc := ⟨_, rfl⟩
                have HRx0 : As ((wr.alloc (.cells ZL 48)).heap[xb]? = some (.cells ZL 48 (0, 0))) := ⟨by
                  have := Row.new wr zLn 48
                  unfold Row at this
                  rw [HZL.out, hxb] at this
                  exact this⟩
                have HZs : As (ZL.size = 33) := ⟨by rw [← HZL.out]; rfl⟩
                have HLs : As (L.size = 33) := ⟨by rw [← hL, List.size_toArray, encLn_len]⟩
                have HL1 : As (L.all (·.oneCell') = true) := ⟨by rw [← hL]; simpa using encLn_one x⟩
                have hxg : g0 ≤ xb := by rw [← hxb]; exact Nat.le_trans HGm.out HBq.out.size
                have HRx : As (Row wc xb 48 (encLn x)) := ⟨by
                  rw [← hwc]; unfold Row
                  rw [hL]
                  exact setRow_heap _ _ _ _ _ _ HRx0.out⟩
                have HBc : As (Below g0 wm wc) := ⟨by rw [← hwc]; exact below_setRow (HBq.out.alloc (by rw [hxb]; exact hxg) _) hxg _⟩
                have HRc : As ((Kd.int .u8).R 5 wc g0 (fun _ => True) u10 (fanL (Ls.map Ln.id) ++ rowsL ((Ms.take q).map lnOf))) := ⟨Kd.R_step HR.out (fun k _ hk => by
                  rw [← hwc, setRow_other _ _ _ _ (by omega)]
                  exact Below.heap_alloc wr _ k hk)⟩
                have HXB := As.mk hxb
                have HWC := As.mk hwc
                have HLL := As.mk hL
                have HOK : As (∀ k, u10.ownBlock = some k → k < wr.heap.size) := ⟨fun k hk => own_lt (Kd.own_of_R HR.out) k hk⟩
                clear hL hxb hwc HR
                go_wp2_with (first
                  | (refine wpList_load_mid rfl 48 (.tmp 77) rfl g (q * 33) rfl (encLn x) _ HRG.out Try.underlying48 rfl (by rw [size_line, encLn_len]) ?_; rw [HLL.out])
                  | (refine wpList_store_row rfl 48 (.tmp 14) (.tmp 78) rfl xb L (by rw [← HXB.out]; rfl) rfl 48 ZL HRx0.out (by rw [size_line, HLs.out]) (by rw [HZs.out, HLs.out]) HL1.out ?_; rw [HWC.out])
                  | fail)
                rcases q with _ | r
                · skip
                  refine start_ (n := 13) (S := fun w' => Below (wc).drew.heap.size (wc).drew w') (ds := []) #[false, false, false, false, false, false, false, false, false, false, false, false, false] (by kernel_rfl) rfl rfl (Below.refl _ _) (fun hHeld => ?_)
                  refine pure_ (i := 0) (N := some 79) (v := ?_) (a' := ?_) #[true, false, false, false, false, false, false, false, false, false, false, false, false] rfl rfl (by kernel_rfl) (fun _ _ _ h => h) (Or.inl ⟨by rfl, ?_⟩) ?_ ?_
                  rotate_left
                  · intro w'
                    go_simp
                    with_reducible rfl
                  rotate_left
                  · simp only [Act.put, List.setIfInBounds_toArray, List.set_cons_zero, List.set_cons_succ, i64_w, i32_w]
                    rfl
                  refine pure_ (i := 1) (N := some 80) (v := ?_) (a' := ?_) #[true, true, false, false, false, false, false, false, false, false, false, false, false] rfl rfl (by kernel_rfl) (fun _ _ _ h => h) (Or.inl ⟨by rfl, ?_⟩) ?_ ?_
                  rotate_left
                  · intro w'
                    go_simp
                    with_reducible rfl
                  rotate_left
                  · simp only [Act.put, List.setIfInBounds_toArray, List.set_cons_zero, List.set_cons_succ, i64_w, i32_w]
                    rfl
                  refine pure_ (i := 2) (N := some 81) (v := ?_) (a' := ?_) #[true, true, true, false, false, false, false, false, false, false, false, false, false] rfl rfl (by kernel_rfl) (fun _ _ _ h => h) (Or.inl ⟨by rfl, ?_⟩) ?_ ?_
                  rotate_left
                  · intro w'
                    go_simp
                    with_reducible rfl
                  rotate_left
                  · simp only [Act.put, List.setIfInBounds_toArray, List.set_cons_zero, List.set_cons_succ, i64_w, i32_w]
                    rfl
                  refine pure_ (i := 3) (N := some 82) (v := undef) (a' := ?_) #[true, true, true, true, false, false, false, false, false, false, false, false, false] rfl rfl (by kernel_rfl) (fun _ _ _ h => h) (Or.inr ⟨by rfl, rfl⟩) ?_ ?_
                  rotate_left
                  · simp only [Act.put, List.setIfInBounds_toArray, List.set_cons_zero, List.set_cons_succ, i64_w, i32_w]
                    rfl
                  refine pure_ (i := 4) (N := some 83) (v := undef) (a' := ?_) #[true, true, true, true, true, false, false, false, false, false, false, false, false] rfl rfl (by kernel_rfl) (fun _ _ _ h => h) (Or.inr ⟨by rfl, rfl⟩) ?_ ?_
                  rotate_left
                  · simp only [Act.put, List.setIfInBounds_toArray, List.set_cons_zero, List.set_cons_succ, i64_w, i32_w]
                    rfl
                  refine pure_ (i := 5) (N := some 84) (v := undef) (a' := ?_) #[true, true, true, true, true, true, false, false, false, false, false, false, false] rfl rfl (by kernel_rfl) (fun _ _ _ h => h) (Or.inr ⟨by rfl, rfl⟩) ?_ ?_
                  rotate_left
                  · simp only [Act.put, List.setIfInBounds_toArray, List.set_cons_zero, List.set_cons_succ, i64_w, i32_w]
                    rfl
                  refine pure_ (i := 6) (N := some 85) (v := undef) (a' := ?_) #[true, true, true, true, true, true, true, false, false, false, false, false, false] rfl rfl (by kernel_rfl) (fun _ _ _ h => h) (Or.inr ⟨by rfl, rfl⟩) ?_ ?_
                  rotate_left
                  · simp only [Act.put, List.setIfInBounds_toArray, List.set_cons_zero, List.set_cons_succ, i64_w, i32_w]
                    rfl
                  refine pure_ (i := 7) (N := some 86) (v := undef) (a' := ?_) #[true, true, true, true, true, true, true, true, false, false, false, false, false] rfl rfl (by kernel_rfl) (fun _ _ _ h => h) (Or.inr ⟨by rfl, rfl⟩) ?_ ?_
                  rotate_left
                  · simp only [Act.put, List.setIfInBounds_toArray, List.set_cons_zero, List.set_cons_succ, i64_w, i32_w]
                    rfl
                  refine pure_ (i := 8) (N := some 87) (v := undef) (a' := ?_) #[true, true, true, true, true, true, true, true, true, false, false, false, false] rfl rfl (by kernel_rfl) (fun _ _ _ h => h) (Or.inr ⟨by rfl, rfl⟩) ?_ ?_
                  rotate_left
                  · simp only [Act.put, List.setIfInBounds_toArray, List.set_cons_zero, List.set_cons_succ, i64_w, i32_w]
                    rfl
                  refine pure_ (i := 9) (N := some 88) (v := undef) (a' := ?_) #[true, true, true, true, true, true, true, true, true, true, false, false, false] rfl rfl (by kernel_rfl) (fun _ _ _ h => h) (Or.inr ⟨by rfl, rfl⟩) ?_ ?_
                  rotate_left
                  · simp only [Act.put, List.setIfInBounds_toArray, List.set_cons_zero, List.set_cons_succ, i64_w, i32_w]
                    rfl
                  refine pure_ (i := 10) (N := some 89) (v := undef) (a' := ?_) #[true, true, true, true, true, true, true, true, true, true, true, false, false] rfl rfl (by kernel_rfl) (fun _ _ _ h => h) (Or.inr ⟨by rfl, rfl⟩) ?_ ?_
                  rotate_left
                  · simp only [Act.put, List.setIfInBounds_toArray, List.set_cons_zero, List.set_cons_succ, i64_w, i32_w]
                    rfl
                  refine pure_ (i := 11) (N := some 90) (v := undef) (a' := ?_) #[true, true, true, true, true, true, true, true, true, true, true, true, false] rfl rfl (by kernel_rfl) (fun _ _ _ h => h) (Or.inr ⟨by rfl, rfl⟩) ?_ ?_
                  rotate_left
                  · simp only [Act.put, List.setIfInBounds_toArray, List.set_cons_zero, List.set_cons_succ, i64_w, i32_w]
                    rfl
                  refine pure_ (i := 12) (N := some 91) (v := ?_) (a' := ?_) #[true, true, true, true, true, true, true, true, true, true, true, true, true] rfl rfl (by kernel_rfl) (fun _ _ _ h => h) (Or.inl ⟨by rfl, ?_⟩) ?_ ?_
                  rotate_left
                  · intro w'
                    go_simp
                    with_reducible rfl
                  rotate_left
                  · simp only [Act.put, List.setIfInBounds_toArray, List.set_cons_zero, List.set_cons_succ, i64_w, i32_w]
                    rfl
                  refine done_ (by kernel_rfl) ?_
                  have HSn : As ((Ms.take (0 + 1)).Pairwise (fun a b => cmpL a.id b.id < 0)) := ⟨by rw [List.take_add_one, HX.out]; simp⟩
                  have hCx : As ((Kd.int .u8).C wc.drew (some ⟨wr.heap.size, 0, none⟩) 32 x.id) := ⟨C_line x wc.drew _ _ (by rw [HXB.out]; exact HRx.out)⟩
                  have HRd : As ((Kd.int .u8).R 5 wc.drew g0 (fun _ => True) u10 (fanL (Ls.map Ln.id) ++ rowsL ((Ms.take 0).map lnOf))) := ⟨Kd.R_drew HRc.out⟩
                  have HBd : As (Below g0 wm wc.drew) := ⟨HBc.out.drew⟩
                  obtain ⟨O, hO⟩ : ∃ O, fanL (Ls.map Ln.id) ++ rowsL ((Ms.take 0).map lnOf) = O := ⟨_, rfl⟩
                  have hOl : O.length ≤ 512 + 34 * 512 := by
                    rw [← hO, List.length_append, fanL_len, rowsL_len, List.length_take]; omega
                  rw [hO] at HRd
                  obtain ⟨m, hm⟩ : ∃ m, x.pl = m := ⟨_, rfl⟩
                  have hm2 : m ≤ 512 := by
                    have := pl_lt ids Ls Ms x i HN.out HK2.out HMP.out (List.mem_of_getElem? HX.out)
                    omega
                  have HNX : As (fanL (Ls.map Ln.id) ++ rowsL ((Ms.take (0 + 1)).map lnOf) = O ++ x.id ++ [(m : Int) / 256, (m : Int) % 256]) := ⟨by rw [rows_snoc Ms 0 x HX.out, hm, twoI_eq m hm2, ← hO]; simp⟩
                  have HM := As.mk hm
                  have hl1 : (O.length + 32) * 1 ≤ 140737488355328 := by omega
                  have hl2 : ((O ++ x.id).length + 2) * 1 ≤ 140737488355328 := by rw [List.length_append, x.len]; omega
                  have hgd9 : g0 ≤ wc.drew.heap.size := Nat.le_trans HGm.out HBd.out.size
                  have hob : As (∀ k, u10.ownBlock = some k → k < xb) := ⟨fun k hk => by rw [← HXB.out]; exact HOK.out k hk⟩
                  clear hO hm HRc HRx0
                  go_wp2_with (first
                    | ((with_reducible refine gate_builtin (b := .append) (xs := #[.tmp 92, .tmp 94]) rfl ?_); at_builtin; refine Kd.R_append_rows (Kd.int .u8) (Rr := (Kd.int .u8).K wc.drew) (w0 := wm) g0 rfl (.tmp 92) (.tmp 94) 23 5 (.int .u8 0) 1 rfl Try.underlying23 info_u8 rfl (by decide) (by decide) u10 O x.id (some ⟨wr.heap.size, 0, none⟩) 32 32 (fun _ => True) (fun _ => False) rfl rfl HRd.out hCx.out (fun _ _ h => h) (fun _ hk => hk.elim) (fun _ _ => trivial) HBd.out hgd9 hl1 ?_; intro v5 w5 ho hb1 hg hat; have HO5 := As.mk ho; have HB5 := As.mk hb1; have hc5 : w5.cell? ⟨wr.heap.size, 32, none⟩ = some (.int .i64 (m : Int)) := (line_pl x xb m wc w5 _ HRx.out HM.out hg (fun h => by have := hob.out xb h; omega) wr.heap.size HXB.out); have HG5 : As (g0 ≤ w5.heap.size) := ⟨Nat.le_trans HGm.out hb1.size⟩; have HR6 : As ((Kd.int .u8).R 5 (w5.alloc (.cells #[.int .u8 ((m : Int) / 256), .int .u8 ((m : Int) % 256)] 5)) g0 (fun _ => True) v5 (O ++ x.id)) := ⟨Kd.R_alloc ho _⟩; have HB6 : As (Below g0 wm (w5.alloc (.cells #[.int .u8 ((m : Int) / 256), .int .u8 ((m : Int) % 256)] 5))) := ⟨hb1.alloc HG5.out _⟩; have HC6 := As.mk (C_new2 w5 ((m : Int) / 256) ((m : Int) % 256)); have HG6 : As (g0 ≤ (w5.alloc (.cells #[.int .u8 ((m : Int) / 256), .int .u8 ((m : Int) % 256)] 5)).heap.size) := ⟨by rw [World.size_alloc]; have := HG5.out; omega⟩; clear ho hb1 hat hg)
                    | ((with_reducible refine gate_builtin (b := .append) (xs := #[.tmp 96, .tmp 104]) rfl ?_); at_builtin; refine Kd.R_append_rows (Kd.int .u8) (Rr := (Kd.int .u8).K (w5.alloc (.cells #[.int .u8 ((m : Int) / 256), .int .u8 ((m : Int) % 256)] 5))) (w0 := wm) g0 rfl (.tmp 96) (.tmp 104) 23 5 (.int .u8 0) 1 rfl Try.underlying23 info_u8 rfl (by decide) (by decide) v5 (O ++ x.id) [(m : Int) / 256, (m : Int) % 256] (some ⟨w5.heap.size, 0, none⟩) 2 2 (fun _ => True) (fun _ => False) rfl rfl HR6.out HC6.out (fun _ _ h => h) (fun _ hk => hk.elim) (fun _ _ => trivial) HB6.out HG6.out hl2 ?_; intro v7 w7 ho hb1 hg hat; have HO7 := As.mk ho; have HB7 := As.mk hb1; clear ho hb1 hat hg)
                    | fail)
                  refine ⟨?_, ?_⟩
                  · repeat apply Exists.intro
                    refine ⟨?_, rfl⟩
                    exact ⟨0 + 1, by go_num, by omega, HSn, ⟨by rw [HNX.out]; exact HO7.out⟩, HB7⟩
                  · simp [intOf]; omega
                · obtain ⟨p, hp⟩ : ∃ p, Ms[r]? = some p := ⟨Ms[r]'(by omega), List.getElem?_eq_getElem _⟩
                  have HRP : As (wc.rangeAt g (r * 33) (p.id.map (Value.int .u8))) := ⟨id_range wc g _ p (line_range wc g i r cur Ms p (by rw [HBc.out.block g hgl]; exact HH.out) HTK.out hMl hp)⟩
                  have HRX : As (wc.rangeAt wr.heap.size 0 (x.id.map (Value.int .u8))) := ⟨id_range wc _ _ x (fun j v hv => by
                    have := HRx.out.cell hv
                    rw [← HXB.out] at this
                    rw [Nat.zero_add]; exact this)⟩
                  have hri : r < i := by omega
                  have HQR := As.mk (wr_pred r (by omega))
                  have HQR2 := As.mk (wr_s (r : Int) (by omega) (by omega))
                  obtain ⟨PX, hPX⟩ : ∃ PX, (p.id.map (Value.int .u8)).toArray = PX := ⟨_, rfl⟩
                  obtain ⟨XX, hXX⟩ : ∃ XX, (x.id.map (Value.int .u8)).toArray = XX := ⟨_, rfl⟩
                  have heq : ∀ W : World, (Op.equalIn 10000 45 (.agg PX) (.agg XX)).run Try.prog W = .ok (p.id == x.id) W := fun W => by
                    rw [← hPX, ← hXX]; exact run_equalIn_32 W 9998 p.id x.id p.len x.len
                  have hgd := guard_32
                  have HPX := As.mk hPX
                  have HXX := As.mk hXX
                  have HPP := As.mk hp
                  clear hPX hXX hp
                  refine start_ (n := 13) (S := fun w' => Below (wc).drew.heap.size (wc).drew w') (ds := []) #[false, false, false, false, false, false, false, false, false, false, false, false, false] (by kernel_rfl) rfl rfl (Below.refl _ _) (fun hHeld => ?_)
                  refine pure_ (i := 0) (N := some 79) (v := ?_) (a' := ?_) #[true, false, false, false, false, false, false, false, false, false, false, false, false] rfl rfl (by kernel_rfl) (fun _ _ _ h => h) (Or.inl ⟨by rfl, ?_⟩) ?_ ?_
                  rotate_left
                  · intro w'
                    go_simp
                    with_reducible rfl
                  rotate_left
                  · simp only [Act.put, List.setIfInBounds_toArray, List.set_cons_zero, List.set_cons_succ, i64_w, i32_w]
                    rfl
                  refine pure_ (i := 1) (N := some 80) (v := ?_) (a' := ?_) #[true, true, false, false, false, false, false, false, false, false, false, false, false] rfl rfl (by kernel_rfl) (fun _ _ _ h => h) (Or.inl ⟨by rfl, ?_⟩) ?_ ?_
                  rotate_left
                  · intro w'
                    go_simp
                    with_reducible rfl
                  rotate_left
                  · simp only [Act.put, List.setIfInBounds_toArray, List.set_cons_zero, List.set_cons_succ, i64_w, i32_w]
                    rfl
                  refine pure_ (i := 2) (N := some 81) (v := ?_) (a' := ?_) #[true, true, true, false, false, false, false, false, false, false, false, false, false] rfl rfl (by kernel_rfl) (fun _ _ _ h => h) (Or.inl ⟨by rfl, ?_⟩) ?_ ?_
                  rotate_left
                  · intro w'
                    go_simp
                    with_reducible rfl
                  rotate_left
                  · simp only [Act.put, List.setIfInBounds_toArray, List.set_cons_zero, List.set_cons_succ, i64_w, i32_w]
                    rfl
                  refine pure_ (i := 3) (N := some 82) (v := ?_) (a' := ?_) #[true, true, true, true, false, false, false, false, false, false, false, false, false] rfl rfl (by kernel_rfl) (fun _ _ _ h => h) (Or.inl ⟨by rfl, ?_⟩) ?_ ?_
                  rotate_left
                  · intro w'
                    go_simp
                    with_reducible rfl
                  rotate_left
                  · simp only [Act.put, List.setIfInBounds_toArray, List.set_cons_zero, List.set_cons_succ, i64_w, i32_w]
                    rfl
                  refine pure_ (i := 4) (N := some 83) (v := ?_) (a' := ?_) #[true, true, true, true, true, false, false, false, false, false, false, false, false] rfl rfl (by kernel_rfl) (fun _ _ _ h => h) (Or.inl ⟨by rfl, ?_⟩) ?_ ?_
                  rotate_left
                  · intro w'
                    go_simp
                    with_reducible rfl
                  rotate_left
                  · simp only [Act.put, List.setIfInBounds_toArray, List.set_cons_zero, List.set_cons_succ, i64_w, i32_w]
                    rfl
                  refine pure_ (i := 5) (N := some 84) (v := ?_) (a' := ?_) #[true, true, true, true, true, true, false, false, false, false, false, false, false] rfl rfl (by kernel_rfl) (fun _ _ _ h => h) (Or.inl ⟨by rfl, ?_⟩) ?_ ?_
                  rotate_left
                  · intro w'
                    go_simp
                    with_reducible rfl
                  rotate_left
                  · simp only [Act.put, List.setIfInBounds_toArray, List.set_cons_zero, List.set_cons_succ, i64_w, i32_w]
                    try rw [HQR.out]
                    try rw [HQR2.out]
                    try rfl
                  refine pure_ (i := 6) (N := some 85) (v := ?_) (a' := ?_) #[true, true, true, true, true, true, true, false, false, false, false, false, false] rfl rfl (by kernel_rfl) (fun _ _ _ h => h) (Or.inl ⟨by rfl, ?_⟩) ?_ ?_
                  rotate_left
                  · intro w'
                    go_simp
                    with_reducible rfl
                  rotate_left
                  · simp only [Act.put, List.setIfInBounds_toArray, List.set_cons_zero, List.set_cons_succ, i64_w, i32_w]
                    rfl
                  refine pure_ (i := 7) (N := some 86) (v := ?_) (a' := ?_) #[true, true, true, true, true, true, true, true, false, false, false, false, false] rfl rfl (by kernel_rfl) (fun _ _ _ h => h) (Or.inl ⟨by rfl, ?_⟩) ?_ ?_
                  rotate_left
                  · intro w'
                    go_simp
                    with_reducible rfl
                  rotate_left
                  · simp only [Act.put, List.setIfInBounds_toArray, List.set_cons_zero, List.set_cons_succ, i64_w, i32_w]
                    rfl
                  refine pure_ (i := 9) (N := some 88) (v := ?_) (a' := ?_) #[true, true, true, true, true, true, true, true, false, true, false, false, false] rfl rfl (by kernel_rfl) (fun _ _ _ h => h) (Or.inl ⟨by rfl, ?_⟩) ?_ ?_
                  rotate_left
                  · intro w'
                    go_simp
                    with_reducible rfl
                  rotate_left
                  · simp only [Act.put, List.setIfInBounds_toArray, List.set_cons_zero, List.set_cons_succ, i64_w, i32_w]
                    rfl
                  refine take_ (i := 8) (N := some 87) (v := ?_) (a' := ?_) #[true, true, true, true, true, true, true, true, true, true, false, false, false] rfl rfl (by kernel_rfl) (fun _ _ _ h => h) (Or.inl ⟨by rfl, ?_⟩) hHeld ?_ ?_
                  rotate_left
                  · intro w' s0
                    have hb0 : Below wc.heap.size wc w' := (Below.refl _ wc).drew.trans s0
                    have k1 := run_loadAt_mid (P := Try.prog) w' g (r * 33) 45 (p.id.map (Value.int .u8)) _ (range_below HRP.out hb0) Try.underlying45 rfl (by rw [info_32]; simp [p.len])
                    rw [HPX.out] at k1
                    refine load_run 45 (.tmp 86) ?_ g (r * 33) ?_ PX k1
                    · rfl
                    · rfl
                  rotate_left
                  · simp only [Act.put, List.setIfInBounds_toArray, List.set_cons_zero, List.set_cons_succ, i64_w, i32_w]
                    rfl
                  refine take_ (i := 10) (N := some 89) (v := ?_) (a' := ?_) #[true, true, true, true, true, true, true, true, true, true, true, false, false] rfl rfl (by kernel_rfl) (fun _ _ _ h => h) (Or.inl ⟨by rfl, ?_⟩) hHeld ?_ ?_
                  rotate_left
                  · intro w' s0
                    have hb0 : Below wc.heap.size wc w' := (Below.refl _ wc).drew.trans s0
                    have k1 := run_loadAt_mid (P := Try.prog) w' wr.heap.size 0 45 (x.id.map (Value.int .u8)) _ (range_below HRX.out hb0) Try.underlying45 rfl (by rw [info_32]; simp [x.len])
                    rw [HXX.out] at k1
                    refine load_run 45 (.tmp 88) ?_ wr.heap.size 0 ?_ XX k1
                    · rfl
                    · rfl
                  rotate_left
                  · simp only [Act.put, List.setIfInBounds_toArray, List.set_cons_zero, List.set_cons_succ, i64_w, i32_w]
                    rfl
                  refine pure_ (i := 11) (N := some 90) (v := ?_) (a' := ?_) #[true, true, true, true, true, true, true, true, true, true, true, true, false] rfl rfl (by kernel_rfl) (fun _ _ _ h => h) (Or.inl ⟨by rfl, ?_⟩) ?_ ?_
                  rotate_left
                  · intro w'
                    go_simp
                    with_reducible rfl
                  rotate_left
                  · simp only [Act.put, List.setIfInBounds_toArray, List.set_cons_zero, List.set_cons_succ, i64_w, i32_w]
                    rfl
                  refine pure_ (i := 12) (N := some 91) (v := ?_) (a' := ?_) #[true, true, true, true, true, true, true, true, true, true, true, true, true] rfl rfl (by kernel_rfl) (fun _ _ _ h => h) (Or.inl ⟨by rfl, ?_⟩) ?_ ?_
                  rotate_left
                  · intro w'
                    go_simp
                    with_reducible rfl
                  rotate_left
                  · simp only [Act.put, List.setIfInBounds_toArray, List.set_cons_zero, List.set_cons_succ, i64_w, i32_w]
                    rfl
                  refine done_ (by kernel_rfl) ?_
                  by_cases hpx : p.id = x.id
                  · have hpb : (p.id == x.id) = true := by rw [beq_iff_eq]; exact hpx
                    have hP : As (PutR ids [] 91) := ⟨put_twice ids Ls Ms p x r HN.out h512 HA2.out HCf.out HMP.out HPP.out HX.out hpx, fun h => absurd h (by decide), fun _ => rfl⟩
                    rw [hpb]
                    have HBw : As (Below cb w wc) := ⟨HBm.out.trans (HBc.out.mono (Nat.le_of_lt hg0c))⟩
                    go_wp2_with (fail)
                    go_ret2
                    exact ⟨_, [], 91, rfl, hP.out, Kd.R_nil _ _ _ _ _, by rw [HCB.out]; exact HBw.out.drew⟩
                  · have hpb : (p.id == x.id) = false := by rw [beq_eq_false_iff_ne]; exact hpx
                    rw [hpb]
                    have HSn : As ((Ms.take (r + 1 + 1)).Pairwise (fun a b => cmpL a.id b.id < 0)) := ⟨strict_snoc Ms r p x (HMS.out.imp fun h => by omega) HS.out HPP.out HX.out hpx⟩
                    have hCx : As ((Kd.int .u8).C wc.drew (some ⟨wr.heap.size, 0, none⟩) 32 x.id) := ⟨C_line x wc.drew _ _ (by rw [HXB.out]; exact HRx.out)⟩
                    have HRd : As ((Kd.int .u8).R 5 wc.drew g0 (fun _ => True) u10 (fanL (Ls.map Ln.id) ++ rowsL ((Ms.take (r + 1)).map lnOf))) := ⟨Kd.R_drew HRc.out⟩
                    have HBd : As (Below g0 wm wc.drew) := ⟨HBc.out.drew⟩
                    obtain ⟨O, hO⟩ : ∃ O, fanL (Ls.map Ln.id) ++ rowsL ((Ms.take (r + 1)).map lnOf) = O := ⟨_, rfl⟩
                    have hOl : O.length ≤ 512 + 34 * 512 := by
                      rw [← hO, List.length_append, fanL_len, rowsL_len, List.length_take]; omega
                    rw [hO] at HRd
                    obtain ⟨m, hm⟩ : ∃ m, x.pl = m := ⟨_, rfl⟩
                    have hm2 : m ≤ 512 := by
                      have := pl_lt ids Ls Ms x i HN.out HK2.out HMP.out (List.mem_of_getElem? HX.out)
                      omega
                    have HNX : As (fanL (Ls.map Ln.id) ++ rowsL ((Ms.take ((r + 1) + 1)).map lnOf) = O ++ x.id ++ [(m : Int) / 256, (m : Int) % 256]) := ⟨by rw [rows_snoc Ms (r + 1) x HX.out, hm, twoI_eq m hm2, ← hO]; simp⟩
                    have HM := As.mk hm
                    have hl1 : (O.length + 32) * 1 ≤ 140737488355328 := by omega
                    have hl2 : ((O ++ x.id).length + 2) * 1 ≤ 140737488355328 := by rw [List.length_append, x.len]; omega
                    have hgd9 : g0 ≤ wc.drew.heap.size := Nat.le_trans HGm.out HBd.out.size
                    have hob : As (∀ k, u10.ownBlock = some k → k < xb) := ⟨fun k hk => by rw [← HXB.out]; exact HOK.out k hk⟩
                    clear hO hm HRc HRx0
                    go_wp2_with (first
                      | ((with_reducible refine gate_builtin (b := .append) (xs := #[.tmp 92, .tmp 94]) rfl ?_); at_builtin; refine Kd.R_append_rows (Kd.int .u8) (Rr := (Kd.int .u8).K wc.drew) (w0 := wm) g0 rfl (.tmp 92) (.tmp 94) 23 5 (.int .u8 0) 1 rfl Try.underlying23 info_u8 rfl (by decide) (by decide) u10 O x.id (some ⟨wr.heap.size, 0, none⟩) 32 32 (fun _ => True) (fun _ => False) rfl rfl HRd.out hCx.out (fun _ _ h => h) (fun _ hk => hk.elim) (fun _ _ => trivial) HBd.out hgd9 hl1 ?_; intro v5 w5 ho hb1 hg hat; have HO5 := As.mk ho; have HB5 := As.mk hb1; have hc5 : w5.cell? ⟨wr.heap.size, 32, none⟩ = some (.int .i64 (m : Int)) := (line_pl x xb m wc w5 _ HRx.out HM.out hg (fun h => by have := hob.out xb h; omega) wr.heap.size HXB.out); have HG5 : As (g0 ≤ w5.heap.size) := ⟨Nat.le_trans HGm.out hb1.size⟩; have HR6 : As ((Kd.int .u8).R 5 (w5.alloc (.cells #[.int .u8 ((m : Int) / 256), .int .u8 ((m : Int) % 256)] 5)) g0 (fun _ => True) v5 (O ++ x.id)) := ⟨Kd.R_alloc ho _⟩; have HB6 : As (Below g0 wm (w5.alloc (.cells #[.int .u8 ((m : Int) / 256), .int .u8 ((m : Int) % 256)] 5))) := ⟨hb1.alloc HG5.out _⟩; have HC6 := As.mk (C_new2 w5 ((m : Int) / 256) ((m : Int) % 256)); have HG6 : As (g0 ≤ (w5.alloc (.cells #[.int .u8 ((m : Int) / 256), .int .u8 ((m : Int) % 256)] 5)).heap.size) := ⟨by rw [World.size_alloc]; have := HG5.out; omega⟩; clear ho hb1 hat hg)
                      | ((with_reducible refine gate_builtin (b := .append) (xs := #[.tmp 96, .tmp 104]) rfl ?_); at_builtin; refine Kd.R_append_rows (Kd.int .u8) (Rr := (Kd.int .u8).K (w5.alloc (.cells #[.int .u8 ((m : Int) / 256), .int .u8 ((m : Int) % 256)] 5))) (w0 := wm) g0 rfl (.tmp 96) (.tmp 104) 23 5 (.int .u8 0) 1 rfl Try.underlying23 info_u8 rfl (by decide) (by decide) v5 (O ++ x.id) [(m : Int) / 256, (m : Int) % 256] (some ⟨w5.heap.size, 0, none⟩) 2 2 (fun _ => True) (fun _ => False) rfl rfl HR6.out HC6.out (fun _ _ h => h) (fun _ hk => hk.elim) (fun _ _ => trivial) HB6.out HG6.out hl2 ?_; intro v7 w7 ho hb1 hg hat; have HO7 := As.mk ho; have HB7 := As.mk hb1; clear ho hb1 hat hg)
                      | fail)
                    refine ⟨?_, ?_⟩
                    · repeat apply Exists.intro
                      refine ⟨?_, rfl⟩
                      exact ⟨(r + 1) + 1, by go_num, by omega, HSn, ⟨by rw [HNX.out]; exact HO7.out⟩, HB7⟩
                    · simp [intOf]; omega
              · have hqn : q = i := by omega
                subst hqn
                have htk : Ms.take q = Ms := List.take_of_length_le (by omega)
                have hp0 : PutR ids (bodyL (Ls.map Ln.id) (Ms.map lnOf) ++ shaL (bodyL (Ls.map Ln.id) (Ms.map lnOf))) 0 := by
                  refine put_ok ids Ls Ms HN.out h512 HA2.out HCf.out HK2.out HMP.out ?_
                  have := HS.out
                  rwa [htk] at this
                obtain ⟨O, hO⟩ : ∃ O, bodyL (Ls.map Ln.id) (Ms.map lnOf) = O := ⟨_, rfl⟩
                have hOl : O.length ≤ 512 + 34 * 512 := by rw [← hO, bodyL, List.length_append, fanL_len, rowsL_len]; omega
                have hO8 : ∀ y ∈ O, 0 ≤ y ∧ y < 256 := by rw [← hO]; exact bodyL_8 _ Ms
                have hRO : (Kd.int .u8).R 5 wr g0 (fun _ => True) u10 O := by
                  have := HR.out
                  rw [htk] at this
                  rw [← hO]; exact this
                rw [hO] at hp0
                obtain ⟨Ao, co, rfl, hco, hCo⟩ := Kd.R_reads hRO
                have hsum := sum_calls Ao co O wr hCo hco (by omega) hO8
                obtain ⟨S, hS⟩ : ∃ S, shaL O = S := ⟨_, rfl⟩
                have hSl : S.length = 32 := by rw [← hS]; exact shaL_len O
                rw [hS] at hsum hp0
                have HSUM := As.mk hsum
                have HRO := As.mk hRO
                have HP0 := As.mk hp0
                have HSl := As.mk hSl
                have hz32 := zero_32
                clear hsum hRO hp0 hO hO8 hS hCo HR HS hSl
                go_wp2_with (fail)
                refine HSUM.out.mono ?_
                rintro e wd ⟨rfl, kd⟩
                have hgw : g0 ≤ wr.heap.size := Nat.le_trans HGm.out HBq.out.size
                have HRd := As.mk (Kd.R_below HRO.out kd)
                have HBd : As (Below g0 wm wd) := ⟨HBq.out.trans (kd.mono hgw)⟩
                have HGd : As (g0 ≤ wd.heap.size) := ⟨Nat.le_trans hgw kd.size⟩
                clear kd HRO HBq HSUM
                obtain ⟨SX, hSX⟩ : ∃ SX, (S.map (Value.int .u8)).toArray = SX := ⟨_, rfl⟩
                rw [hSX]
                obtain ⟨Z3, hZ3⟩ : ∃ Z3, Z32 = Z3 := ⟨_, rfl⟩
                rw [hZ3] at hz32
                obtain ⟨xb, hxb⟩ : ∃ xb, wd.heap.size = xb := ⟨_, rfl⟩
                obtain ⟨we, hwe⟩ : ∃ we, (wd.alloc (.cells Z3 45)).setRow xb SX = we := ⟨_, rfl⟩
                have HZr : As ((wd.alloc (.cells Z3 45)).heap[xb]? = some (.cells Z3 45 (0, 0))) := ⟨by
                  have := Row.new wd (List.replicate 32 (.int .u8 0)) 45
                  unfold Row at this
                  rw [hxb] at this
                  rw [← hZ3]; exact this⟩
                have HZs : As (Z3.size = 32) := ⟨by rw [← hZ3]; rfl⟩
                have HSs : As (SX.size = 32) := ⟨by rw [← hSX]; simp [HSl.out]⟩
                have HS1 : As (SX.all (·.oneCell') = true) := ⟨by rw [← hSX]; exact all_u8 _⟩
                have hxg : g0 ≤ xb := by rw [← hxb]; exact HGd.out
                have HCe : As ((Kd.int .u8).C we (some ⟨wd.heap.size, 0, none⟩) 32 S) := ⟨by
                  have h1 : we.heap[xb]? = some (.cells SX 45 (0, 0)) := by rw [← hwe]; exact setRow_heap _ _ _ _ _ _ HZr.out
                  rw [← hSX] at h1
                  rw [hxb]
                  exact C_row we xb S 32 _ h1 HSl.out (by decide)⟩
                have HRe : As ((Kd.int .u8).R 5 we g0 (fun _ => True) (.slice Ao O.length co) O) := ⟨Kd.R_step HRd.out (fun k _ hk => by
                  rw [← hwe, setRow_other _ _ _ _ (by omega)]
                  exact Below.heap_alloc wd _ k hk)⟩
                have HBe : As (Below g0 wm we) := ⟨by rw [← hwe]; exact below_setRow (HBd.out.alloc HGd.out _) hxg _⟩
                have HGe : As (g0 ≤ we.heap.size) := ⟨Nat.le_trans HGm.out HBe.out.size⟩
                have hl5 : (O.length + 32) * 1 ≤ 140737488355328 := by omega
                have HXB := As.mk hxb
                have HWE := As.mk hwe
                clear hSX hZ3 hxb hwe HRd HBd
                go_wp2_with (first
                  | (refine wpList_store_row rfl 45 (.tmp 15) (.tmp 108) rfl xb SX (by rw [← HXB.out]; rfl) rfl 45 Z3 HZr.out (by rw [info_32, HSs.out]) (by rw [HZs.out, HSs.out]) HS1.out ?_; rw [HWE.out])
                  | ((with_reducible refine gate_builtin (b := .append) (xs := #[.tmp 109, .tmp 110]) rfl ?_); at_builtin; refine Kd.R_append_rows (Kd.int .u8) (Rr := (Kd.int .u8).K we) (w0 := wm) g0 rfl (.tmp 109) (.tmp 110) 23 5 (.int .u8 0) 1 rfl Try.underlying23 info_u8 rfl (by decide) (by decide) (.slice Ao O.length co) O S (some ⟨wd.heap.size, 0, none⟩) 32 32 (fun _ => True) (fun _ => False) rfl rfl HRe.out HCe.out (fun _ _ h => h) (fun _ hk => hk.elim) (fun _ _ => trivial) HBe.out HGe.out hl5 ?_; intro v7 w7 ho hb1 hg hat; have HO7 := As.mk ho; have HB7 := As.mk hb1; clear ho hb1 hat hg)
                  | fail)
                go_ret2
                refine ⟨_, O ++ S, 0, rfl, HP0.out, Kd.R_lower HO7.out (by rw [HCB.out]; omega), ?_⟩
                rw [HCB.out]
                exact HBm.out.trans (HB7.out.mono (by omega))
end Go.Proofs.Ytonhmjodgomeiaa.Ix

/- index.rows: an index's rows of names and places, by its length. No condition but its length's reach. -/
namespace Go.Proofs.Ytonhmjodgomeiaa.Ix
set_option linter.unusedVariables false
set_option linter.unusedSimpArgs false
open Go.RowKit Blk Dg Go.Proofs.YtonhmjodgomeiaaW.PrintWords Go.Proofs.YtonhmjodgomeiaaW.PrintLast Go.Proofs.YtonhmjodgomeiaaW.PrintMore

theorem info5e : ∃ i : TypeInfo, Try.prog.info? 5 = some i ∧ i.size = 1 := by
  obtain ⟨i, hi, hz⟩ := Option.map_eq_some_iff.1 Il.info5
  simp only [Prod.mk.injEq] at hz
  exact ⟨i, hi, hz.2.1⟩
theorem slice_drop (kl : IntKind) (A : Option Addr) (n c : Nat) (L : List Int) (j : Int) (h0 : 0 ≤ j) (hn : L.length = n) (hj : j ≤ n) (hc : n ≤ c) : ∃ (A' : Option Addr) (m c' : Nat) (r : List Int), L.drop j.toNat = r ∧ r.length = m ∧ m ≤ c' ∧
    (∀ W : World, (Instr.slice 23 (.slice A n c) (some (.int kl j)) none none).run Try.prog W = .ok (.slice A' m c') W) ∧ (∀ w, (Kd.int .u8).C w A n L → (Kd.int .u8).C w A' m r) := by
  obtain ⟨i, hi, hs⟩ := info5e
  subst hn
  obtain ⟨A', h1, h2, h3⟩ := print_drop_of (P := Try.prog) (Value.int .u8) (0 : Int) 23 5 kl Try.underlying23 hi hs A c L j h0 hj hc
  exact ⟨A', _, _, _, rfl, rfl, h3, h1, fun w h => Kd.C_of_reads (h2 w (Kd.reads_of_C (d := (0 : Int)) h))⟩
theorem slice_take (kl : IntKind) (A : Option Addr) (n c : Nat) (L : List Int) (j : Int) (h0 : 0 ≤ j) (hn : L.length = n) (hj : j ≤ n) (hc : n ≤ c) : ∃ (m : Nat) (r : List Int), L.take j.toNat = r ∧ r.length = m ∧ m ≤ c ∧
    (∀ W : World, (Instr.slice 23 (.slice A n c) none (some (.int kl j)) none).run Try.prog W = .ok (.slice A m c) W) ∧ (∀ w, (Kd.int .u8).C w A n L → (Kd.int .u8).C w A m r) := by
  obtain ⟨i, hi, hs⟩ := info5e
  subst hn
  obtain ⟨h1, h2, h3⟩ := print_take_of (P := Try.prog) (Value.int .u8) (0 : Int) 23 5 kl Try.underlying23 hi hs A c L j h0 hj hc
  exact ⟨_, _, rfl, rfl, h3, h1, fun w h => Kd.C_of_reads (h2 w (Kd.reads_of_C (d := (0 : Int)) h))⟩
theorem slice_mid (A : Option Addr) (n c : Nat) (L : List Int) (a b : Int) (h0 : 0 ≤ a) (h1 : a ≤ b) (hn : L.length = n) (hj : b ≤ n) (hc : n ≤ c) : ∃ (A' : Option Addr) (m c' : Nat) (r : List Int), (L.take b.toNat).drop a.toNat = r ∧ r.length = m ∧ m ≤ c' ∧
    (∀ W : World, (Instr.slice 23 (.slice A n c) (some (.int .i64 a)) (some (.int .i64 b)) none).run Try.prog W = .ok (.slice A' m c') W) ∧ (∀ w, (Kd.int .u8).C w A n L → (Kd.int .u8).C w A' m r) := by
  obtain ⟨i, hi, hs⟩ := info5e
  subst hn
  obtain ⟨A', k1, k2, k3⟩ := print_mid_of (P := Try.prog) (Value.int .u8) (0 : Int) 23 5 .i64 .i64 Try.underlying23 hi hs A c L a b h0 h1 hj hc
  exact ⟨A', _, _, _, rfl, rfl, k3, k1, fun w h => Kd.C_of_reads (k2 w (Kd.reads_of_C (d := (0 : Int)) h))⟩
def rowsOk (n : Nat) : Prop := 544 ≤ n ∧ (n - 544) % 34 = 0 ∧ (n - 544) / 34 ≤ 512
instance (n : Nat) : Decidable (rowsOk n) := by unfold rowsOk; infer_instance
def midL (L : List Int) : List Int := (L.take (L.length - 32)).drop 512
set_option maxHeartbeats 4000000 in
set_option maxRecDepth 100000 in
theorem rows_no (A : Option Addr) (c n : Nat) (w : World) (hz : n ≤ 1073741824) (h : ¬ rowsOk n) :
    Calls Try.prog 33 #[.slice A n c] w fun e w' => e = .returned (.tuple #[.slice none 0 0, .bool false]) ∧ w' = w := by
  unfold rowsOk at h
  rcases (show n < 544 ∨ (544 ≤ n ∧ (n - 544) % 34 ≠ 0) ∨ (544 ≤ n ∧ (n - 544) % 34 = 0 ∧ 512 < (n - 544) / 34) by omega) with h1 | ⟨h1, h2⟩ | ⟨h1, h2, h3⟩
  · go_enter Try.func33, Try.ntmps33
    go_wp2_with (fail)
    go_ret2
    exact ⟨rfl, rfl⟩
  · obtain ⟨d, rfl⟩ : ∃ d, n = d + 544 := ⟨n - 544, by omega⟩
    go_enter Try.func33, Try.ntmps33
    go_wp2_with (fail)
    all_goals
      go_ret2
      exact ⟨rfl, rfl⟩
  · obtain ⟨d, rfl⟩ : ∃ d, n = d + 544 := ⟨n - 544, by omega⟩
    go_enter Try.func33, Try.ntmps33
    go_wp2_with (fail)
    all_goals
      go_ret2
      exact ⟨rfl, rfl⟩
set_option maxHeartbeats 4000000 in
set_option maxRecDepth 100000 in
theorem rows_yes (A : Option Addr) (c n : Nat) (L : List Int) (hn : L.length = n) (hc : n ≤ c) (hz : n ≤ 1073741824) (h : rowsOk n) : ∃ (A' : Option Addr) (m c' : Nat) (r : List Int), midL L = r ∧ r.length = m ∧ m ≤ c' ∧ (∀ w, (Kd.int .u8).C w A n L → (Kd.int .u8).C w A' m r) ∧
    ∀ w, Calls Try.prog 33 #[.slice A n c] w fun e w' => e = .returned (.tuple #[.slice A' m c', .bool true]) ∧ w' = w := by
  unfold rowsOk at h
  obtain ⟨A', m, c', r, h1, h2, h3, h4, h5⟩ := slice_mid A n c L 512 (512 + ((n : Int) - 512 - 32)) (by decide) (by omega) hn (by omega) hc
  rw [show (512 + ((n : Int) - 512 - 32)).toNat = L.length - 32 by omega] at h1
  refine ⟨A', m, c', r, h1, h2, h3, h5, fun w => ?_⟩
  clear h1 h2 h3 h5
  have e1 : decide ((n : Int) - 512 - 32 < 0) = false := decide_eq_false (by omega)
  have e2 : decide (0 < ((n : Int) - 512 - 32) % 34) = false := decide_eq_false (by omega)
  have e3 : decide (512 < ((n : Int) - 512 - 32) / 34) = false := decide_eq_false (by omega)
  go_enter Try.func33, Try.ntmps33
  go_wp2_with (fail)
  go_ret2
  exact ⟨rfl, rfl⟩
end Go.Proofs.Ytonhmjodgomeiaa.Ix

/- index.number, bytes.Equal, a make of strings. No condition but the reach. -/
namespace Go.Proofs.Ytonhmjodgomeiaa.Ix
set_option linter.unusedVariables false
set_option linter.unusedSimpArgs false
open Go.RowKit Blk Dg Go.Proofs.YtonhmjodgomeiaaW.PrintWords Go.Proofs.YtonhmjodgomeiaaW.PrintLast Go.Proofs.YtonhmjodgomeiaaW.PrintMore

def numL (L : List Int) : Nat := (L.getD 0 0).toNat * 256 + (L.getD 1 0).toNat
theorem w64' (n : Int) (h0 : 0 ≤ n) (h1 : n < 2 ^ 63) : IntKind.i64.wrap n = n := by rw [IntKind.wrap_i64]; omega
theorem or_byte (a b : Int) (ha : 0 ≤ a ∧ a < 256) (hb : 0 ≤ b ∧ b < 256) : Go.bits .or .i64 (a * 256) b = a * 256 + b := by
  have hj := bits_join .i64 63 (by decide) w64' 8 (a * 256) b (by omega) (by rw [show (2 : Int) ^ 8 = 256 from rfl]; omega) (by omega) hb.1 (by rw [show (2 : Int) ^ 8 = 256 from rfl]; omega) (by omega)
  exact hj
theorem below_drawn {w w' : World} (h : Drawn0 w w') : Below w.heap.size w w' := by
  obtain ⟨n, rfl⟩ := h
  exact pw_below_drewN (Below.refl _ _) n
theorem number_calls (A : Option Addr) (c n : Nat) (L : List Int) (w : World) (hC : (Kd.int .u8).C w A n L) (hn : L.length = n) (h2 : 2 ≤ n) (hc : n ≤ c) (h8 : ∀ x ∈ L, 0 ≤ x ∧ x < 256) :
    Calls Try.prog 32 #[.slice A n c] w fun e w' => e = .returned (.int .i64 (numL L : Int)) ∧ Below w.heap.size w w' := by
  subst hn
  obtain ⟨a, b, r, rfl⟩ : ∃ a b r, L = a :: b :: r := by
    rcases L with _ | ⟨a, _ | ⟨b, r⟩⟩
    · simp at h2
    · simp at h2
    · exact ⟨a, b, r, rfl⟩
  have ha := h8 a (by simp)
  have hb := h8 b (by simp)
  have hf : Il.index_number.f (a :: b :: r) = some (numL (a :: b :: r) : Int) := by
    unfold Il.index_number.f
    have r0 : rd (a :: b :: r) 0 = a := rfl
    have r1 : rd (a :: b :: r) 1 = b := rfl
    rw [if_pos (by simp only [List.length_cons]; omega), if_pos (by simp only [List.length_cons]; omega), r0, r1, wr_s a (by omega) (by omega), wr_s (a * 256) (by omega) (by omega), wr_s b (by omega) (by omega), or_byte a b ha hb]
    congr 1
    simp [numL]
    omega
  exact (Il.index_number.calls A c _ _ w hC hc hf).mono fun e w' h => ⟨h.1, below_drawn h.2⟩
theorem toList_inj (s t : ByteArray) : s.toList = t.toList ↔ bytesOf s = bytesOf t := by
  rw [ByteArray.toList_eq, ByteArray.toList_eq]
  constructor
  · intro h; unfold bytesOf; rw [h]
  · intro h
    unfold bytesOf at h
    refine (List.map_inj_right ?_).1 h
    intro x y hxy
    have : x.toNat = y.toNat := by omega
    exact UInt8.toNat_inj.1 this
theorem str_inj (s t : ByteArray) : s = t ↔ bytesOf s = bytesOf t := by
  constructor
  · rintro rfl; rfl
  · intro h
    have := (toList_inj s t).2 h
    rw [ByteArray.toList_eq, ByteArray.toList_eq] at this
    exact ByteArray.ext (Array.toList_inj.1 this)
theorem str_toList (xs ys : List Int) (hx : ∀ x ∈ xs, 0 ≤ x ∧ x < 256) (hy : ∀ x ∈ ys, 0 ≤ x ∧ x < 256) : ((strOfNums xs).toList == (strOfNums ys).toList) = decide (xs = ys) := by
  by_cases h : xs = ys
  · rw [h, decide_eq_true rfl]; exact beq_iff_eq.2 rfl
  · rw [decide_eq_false h]
    refine beq_eq_false_iff_ne.2 fun e => h ?_
    have := (toList_inj _ _).1 e
    rwa [bytesOf_str xs hx, bytesOf_str ys hy] at this
theorem equal_calls (A B : Option Addr) (c d n m : Nat) (a b : List Int) (w : World) (h1 : (Kd.int .u8).C w A n a) (h2 : (Kd.int .u8).C w B m b) (hn : a.length = n) (hm : b.length = m) (hc : n ≤ c) (hd : m ≤ d) (ha : ∀ x ∈ a, 0 ≤ x ∧ x < 256) (hb : ∀ x ∈ b, 0 ≤ x ∧ x < 256) :
    Calls Try.prog 36 #[.slice A n c, .slice B m d] w fun e w' => e = .returned (.bool (decide (a = b))) ∧ Below w.heap.size w w' := by
  subst hn hm
  exact (Il.bytes_Equal.calls A c a B d b _ w h1 hc h2 hd (by rw [Il.bytes_Equal.f, str_toList a b ha hb])).mono fun e w' h => ⟨h.1, below_drawn h.2⟩
theorem info_str : (Try.prog.info? 9).map (fun i => (i.zero, i.size, i.bytes)) = some (some (.string ⟨#[]⟩), 1, 16) := by kernel_rfl
theorem make_strs (n : Nat) (hn : n ≤ 512) (w : World) : ∃ w', (Instr.makeSlice 22 (.int .i64 (n : Int)) (.int .i64 (n : Int))).run Try.prog w = .ok (.slice (some ⟨w.heap.size, 0, none⟩) n n) w' ∧
    Kd.string.R 9 w' w.heap.size (fun _ => True) (.slice (some ⟨w.heap.size, 0, none⟩) n n) (List.replicate n ⟨#[]⟩) ∧ Below w.heap.size w w' := by
  obtain ⟨i, hi, hz⟩ := Option.map_eq_some_iff.1 info_str
  simp only [Prod.mk.injEq] at hz
  obtain ⟨w', h1, h2, h3⟩ := run_make_full (P := Try.prog) w w.heap.size 22 9 i _ 1 Try.underlying22 hi hz.1 hz.2.1 .i64 .i64 n (by rw [hz.2.2]; omega) (by simp only [maxLen]; omega) (Nat.le_refl _)
  refine ⟨w', h1, ?_, (Below.refl _ w).grown h3 (Nat.le_refl _) (fun _ h => by cases h)⟩
  refine Kd.R_of_own (enc := Value.string) ?_ (fun _ _ => trivial)
  rw [List.length_replicate]
  have e : encs Value.string (List.replicate n ⟨#[]⟩) = (madeCells (Value.string ⟨#[]⟩).cells (n * 1)).toList := by
    apply List.ext_getElem
    · simp [encs, size_madeCells]
    · intro k k1 k2
      simp [encs, madeCells, Value.cells, Nat.mod_one]
  rw [e]; exact h2
end Go.Proofs.Ytonhmjodgomeiaa.Ix

/- index.Right: are bytes an index? No condition but their number. -/
namespace Go.Proofs.Ytonhmjodgomeiaa.Ix
set_option linter.unusedVariables false
set_option linter.unusedSimpArgs false
open Go.RowKit Blk Dg Go.Proofs.YtonhmjodgomeiaaW.PrintWords Go.Proofs.YtonhmjodgomeiaaW.PrintLast Go.Proofs.YtonhmjodgomeiaaW.PrintMore

/-- The names by their places, of k rows. -/
def fillG (m : Nat) : Nat → List Int → List ByteArray → Option (List ByteArray)
  | 0, _, ids => some ids
  | k + 1, L, ids => if m ≤ numL (L.drop 32) then none else fillG m k (L.drop 34) (ids.set (numL (L.drop 32)) (toldS (L.take 32)))
def idsOf (b : List Int) : Option (List ByteArray) :=
  if rowsOk b.length then fillG ((b.length - 544) / 34) ((b.length - 544) / 34) (midL b) (List.replicate ((b.length - 544) / 34) ⟨#[]⟩) else none
def RightL (b : List Int) : Prop := ∃ ids, idsOf b = some ids ∧ PutR ids b 0
noncomputable def rightB (b : List Int) : Bool := by classical exact decide (RightL b)
theorem rightB_iff (b : List Int) : rightB b = true ↔ RightL b := by unfold rightB; simp
theorem rightB_no (b : List Int) (h : ¬ RightL b) : rightB b = false := by unfold rightB; simp [h]
theorem right_none (b : List Int) (h : idsOf b = none) : rightB b = false := rightB_no b (fun ⟨ids, h1, _⟩ => by rw [h] at h1; cases h1)
theorem right_some (b b' : List Int) (z : Int) (ids : List ByteArray) (h : idsOf b = some ids) (hp : PutR ids b' z) : rightB b = ((z == 0) && decide (b' = b)) := by
  by_cases hz : z = 0
  · subst hz
    by_cases hb : b' = b
    · subst hb
      rw [(rightB_iff b').2 ⟨ids, h, hp⟩]; simp
    · rw [rightB_no b (fun ⟨ids', h1, h2⟩ => hb (by rw [h] at h1; cases h1; exact (putR_unique hp h2).1))]
      simp [hb]
  · rw [rightB_no b (fun ⟨ids', h1, h2⟩ => hz (by rw [h] at h1; cases h1; exact (putR_unique hp h2).2))]
    simp [hz]
theorem told_size (r : List Int) (h : r.length = 32) : (toldS r).size = 64 := by rw [toldS, strOfNums_size, nameL_len, h]
theorem isIx_8 {ids : List ByteArray} {b : List Int} (hall : ids.all (fun s => namedL (bytesOf s)) = true) (h : IsIx ids b) : ∀ x ∈ b, 0 ≤ x ∧ x < 256 := by
  obtain ⟨P, hP, _, rfl⟩ := h
  intro x hx
  rcases List.mem_append.1 hx with h | h
  · rcases List.mem_append.1 h with h | h
    · obtain ⟨c, _, h⟩ := List.mem_flatMap.1 h
      exact twoI_8 _ x h
    · obtain ⟨p, hp, h⟩ := List.mem_flatMap.1 h
      rcases List.mem_append.1 h with h | h
      · obtain ⟨q, hq, rfl⟩ := List.mem_map.1 (hP.subset hp)
        have h3 := List.mem_zipIdx hq
        have hm : q.1 ∈ ids := by rw [h3.2.2]; exact List.getElem_mem _
        exact rawL_8 (List.all_eq_true.1 hall q.1 hm) x h
      · exact twoI_8 _ x h
  · exact shaL_8 _ x h
theorem putE_0 {ids : List ByteArray} (h : putE ids = 0) : ids.length ≤ 512 ∧ ids.all (fun s => namedL (bytesOf s)) = true ∧ (ids.map rawL).Nodup := by
  unfold putE at h
  by_cases h1 : 512 < ids.length
  · rw [if_pos h1] at h; cases h
  · rw [if_neg h1] at h
    by_cases h2 : ids.all (fun s => namedL (bytesOf s)) = false
    · rw [if_pos h2] at h; cases h
    · rw [if_neg h2] at h
      by_cases h3 : (ids.map rawL).Nodup
      · exact ⟨by omega, by simpa using h2, h3⟩
      · rw [if_neg h3] at h; cases h
theorem putR_8 {ids : List ByteArray} {b : List Int} {z : Int} (h : PutR ids b z) : ∀ x ∈ b, 0 ≤ x ∧ x < 256 := by
  by_cases hz : z = 0
  · exact isIx_8 (putE_0 (by rw [← h.1]; exact hz)).2.1 (h.2.1 hz)
  · rw [h.2.2 hz]; intro x hx; cases hx
def slLen : Value → Nat
  | .slice _ n _ => n
  | _ => 0
set_option maxHeartbeats 4000000 in
set_option maxRecDepth 100000 in
theorem right_calls (A : Option Addr) (c n : Nat) (b : List Int) (w : World) (hC : (Kd.int .u8).C w A n b) (hn : b.length = n) (hc : n ≤ c) (hz : n ≤ 1073741824) (h8 : ∀ x ∈ b, 0 ≤ x ∧ x < 256) :
    Calls Try.prog 15 #[.slice A n c] w fun e w' => e = .returned (.bool (rightB b)) ∧ Below w.heap.size w w' := by
  obtain ⟨B, hB⟩ : ∃ B, rightB b = B := ⟨_, rfl⟩
  rw [hB]
  by_cases hr : rowsOk n
  · obtain ⟨A1, n1, c1, L1, hL1, hl1, hc1, hC1, hrows⟩ := rows_yes A c n b hn hc hz hr
    have hr' := hr
    unfold rowsOk at hr'
    obtain ⟨m, hm⟩ : ∃ m, (n - 544) / 34 = m := ⟨_, rfl⟩
    have hn1 : n1 = 34 * m := by
      rw [← hl1, ← hL1, midL, List.length_drop, List.length_take, hn]; omega
    have hm5 : m ≤ 512 := by omega
    have H81 : As (∀ x ∈ L1, 0 ≤ x ∧ x < 256) := ⟨fun x hx => h8 x (by rw [← hL1, midL] at hx; exact List.mem_of_mem_take (List.mem_of_mem_drop hx))⟩
    obtain ⟨F, hF⟩ : ∃ F, idsOf b = F := ⟨_, rfl⟩
    have HF : As (fillG m m L1 (List.replicate m ⟨#[]⟩) = F) := ⟨by rw [← hF, idsOf, hn, if_pos hr, hm, hL1]⟩
    have HIF := As.mk hF
    have HBB := As.mk hB
    have HC := As.mk hC
    have HC1 := As.mk (hC1 w hC)
    have H8 := As.mk h8
    have HN := As.mk hn
    subst hn1
    have HR := As.mk hrows
    have HL1 := As.mk hl1
    clear hB hF hC hC1 h8 hn hrows hL1 hl1 hr hr' hm
    obtain ⟨wm, hmk, hRm, hbm⟩ := make_strs m hm5 w
    have HRm := As.mk hRm
    have HBm := As.mk hbm
    clear hRm hbm
    go_enter Try.func15, Try.ntmps15
    go_wp2_with (fail)
    refine (HR.out _).mono ?_
    rintro e w1 ⟨rfl, rfl⟩
    go_wp2_with (fail)
    clear hmk HR
    obtain ⟨g, hg⟩ : ∃ g, w1.heap.size = g := ⟨_, rfl⟩
    rw [hg] at HRm ⊢
    have HGG := As.mk hg
    clear hg
    go_loopw [3] (fun v3 wr => ∃ (A2 : Option Addr) (k c2 : Nat) (L : List Int) (xs : List ByteArray), v3 = .slice A2 (34 * k) c2 ∧ L.length = 34 * k ∧ 34 * k ≤ c2 ∧ k ≤ m ∧ xs.length = m ∧ As (∀ s ∈ xs, s.size ≤ 64) ∧ As (∀ x ∈ L, 0 ≤ x ∧ x < 256) ∧ As ((Kd.int .u8).C w1 A2 (34 * k) L) ∧ As (fillG m k L xs = F) ∧
      As (Kd.string.R 9 wr g (fun _ => True) (.slice (some ⟨g, 0, none⟩) m m) xs) ∧ As (Below g w1 wr)) (fun v3 _ => slLen v3)
    case atStart => exact ⟨A1, m, c1, L1, List.replicate m ⟨#[]⟩, rfl, HL1.out, hc1, Nat.le_refl _, List.length_replicate, ⟨fun s hs => by rw [(List.mem_replicate.1 hs).2]; decide⟩, H81, HC1, HF, HRm, ⟨by rw [← HGG.out]; exact HBm.out⟩⟩
    case round =>
      clear HF HRm HC1 H81 HL1
      obtain ⟨A2, k, c2, L, xs, rfl, hLl, hc2, hkm, hxl, HS, H82, HC2, HF, HX, HBr⟩ := hrel
      have HBw : As (Below w1.heap.size w1 wr) := ⟨by rw [HGG.out]; exact HBr.out⟩
      rcases k with _ | k
      · have hF := HF.out
        rw [fillG] at hF
        subst hF
        clear HF
        have hput := put_calls (some ⟨g, 0, none⟩) m m xs wr (by have h := (Kd.R_reads' HX.out).2.2; rwa [hxl] at h) hxl (Nat.le_refl _) (fun s hs => by have := HS.out s hs; omega)
        have HPUT := As.mk hput
        clear hput
        go_wp2_with (fail)
        refine HPUT.out.mono ?_
        rintro e w5 ⟨v5, b5, z, rfl, hp5, hR5, k5⟩
        have HB5 : As (Below w1.heap.size w1 w5) := ⟨HBw.out.trans (k5.mono HBw.out.size)⟩
        have hrs := right_some b b5 z xs HIF.out hp5
        rw [HBB.out] at hrs
        obtain ⟨A5, c5, rfl, hc5, hC5⟩ := Kd.R_reads hR5
        have HC5 := As.mk hC5
        have h85 : As (∀ x ∈ b5, 0 ≤ x ∧ x < 256) := ⟨putR_8 hp5⟩
        have HRS := As.mk hrs
        clear hp5 hR5 k5 HPUT hC5 hrs
        by_cases hz0 : z = 0
        · subst hz0
          have hBe : B = decide (b5 = b) := by rw [HRS.out]; simp
          subst hBe
          clear HRS HBB
          go_wp2_with (fail)
          refine (equal_calls A5 A c5 c b5.length n b5 b _ HC5.out (Kd.C_below HC.out HB5.out) rfl HN.out hc5 hc h85.out H8.out).mono ?_
          rintro e w6 ⟨rfl, k6⟩
          have HB6 : As (Below w1.heap.size w1 w6) := ⟨HB5.out.trans (k6.mono HB5.out.size)⟩
          clear k6
          go_wp2_with (fail)
          go_ret
          exact ⟨rfl, HB6.out⟩
        · have hBe : B = false := by rw [HRS.out]; simp [hz0]
          subst hBe
          have hze : (z == 0) = false := by rw [beq_eq_false_iff_ne]; exact hz0
          clear HRS HBB
          go_wp2_with (fail)
          go_ret
          exact ⟨rfl, HB5.out⟩
      · obtain ⟨A3, n3, c3, L3, hL3, hl3, hc3, hs3, hC3⟩ := slice_drop .i64 A2 (34 * (k + 1)) c2 L 32 (by decide) hLl (by omega) hc2
        obtain ⟨n4, L4, hL4, hl4, hc4, hs4, hC4⟩ := slice_take .i64 A2 (34 * (k + 1)) c2 L 32 (by decide) hLl (by omega) hc2
        obtain ⟨A5, n5, c5, L5, hL5, hl5, hc5, hs5, hC5⟩ := slice_drop .i64 A2 (34 * (k + 1)) c2 L 34 (by decide) hLl (by omega) hc2
        have hL3' : L.drop 32 = L3 := hL3
        have hL4' : L.take 32 = L4 := hL4
        have hL5' : L.drop 34 = L5 := hL5
        have hn3 : 2 ≤ n3 := by rw [← hl3, ← hL3', List.length_drop, hLl]; omega
        have hn4 : n4 = 32 := by rw [← hl4, ← hL4', List.length_take, hLl]; omega
        have hn5 : n5 = 34 * k := by rw [← hl5, ← hL5', List.length_drop, hLl]; omega
        subst hn4 hn5
        have h83 : ∀ x ∈ L3, 0 ≤ x ∧ x < 256 := fun x hx => H82.out x (by rw [← hL3'] at hx; exact List.mem_of_mem_drop hx)
        have h84 : ∀ x ∈ L4, 0 ≤ x ∧ x < 256 := fun x hx => H82.out x (by rw [← hL4'] at hx; exact List.mem_of_mem_take hx)
        have H85 : As (∀ x ∈ L5, 0 ≤ x ∧ x < 256) := ⟨fun x hx => H82.out x (by rw [← hL5'] at hx; exact List.mem_of_mem_drop hx)⟩
        have hF := HF.out
        rw [fillG, hL3', hL4', hL5'] at hF
        have HC5 := As.mk (hC5 w1 HC2.out)
        have HC3 := As.mk (Kd.C_below (hC3 w1 HC2.out) HBw.out)
        have HC4 := As.mk (hC4 w1 HC2.out)
        have HT3 := As.mk h83
        have HT4 := As.mk h84
        obtain ⟨at_, hat⟩ : ∃ a, numL L3 = a := ⟨_, rfl⟩
        rw [hat] at hF
        have HAT := As.mk hat
        have HFF := As.mk hF
        clear hL3 hL4 hL5 hL3' hL4' hL5' h83 h84 hF HF hC3 hC4 hC5 hat HC2 H82
        go_wp2_with (fail)
        refine (number_calls A3 c3 n3 L3 _ HC3.out hl3 hn3 hc3 HT3.out).mono ?_
        rintro e w2 ⟨rfl, k2⟩
        rw [HAT.out]
        have HB2 : As (Below w1.heap.size w1 w2) := ⟨HBw.out.trans (k2.mono HBw.out.size)⟩
        have HX2 := As.mk (Kd.R_below HX.out k2)
        clear k2 HX HBr HBw
        by_cases ham : m ≤ at_
        · have hF := HFF.out
          rw [if_pos ham] at hF
          subst hF
          have hBf : B = false := by rw [← HBB.out]; exact right_none b HIF.out
          subst hBf
          go_wp2_with (fail)
          go_ret
          exact ⟨rfl, HB2.out⟩
        · have hF := HFF.out
          rw [if_neg ham] at hF
          have HF2 := As.mk hF
          have ham2 : at_ < m := by omega
          clear hF HFF
          go_wp2_with (fail)
          refine (told_calls A2 c2 32 L4 _ (Kd.C_below HC4.out HB2.out) hl4 hc4 (by decide) HT4.out).mono ?_
          rintro e w3 ⟨rfl, k3⟩
          have HB3 : As (Below w1.heap.size w1 w3) := ⟨HB2.out.trans (k3.mono HB2.out.size)⟩
          have HX3 := As.mk (Kd.R_below HX2.out k3)
          obtain ⟨T, hT⟩ : ∃ T, toldS L4 = T := ⟨_, rfl⟩
          have hTs : T.size ≤ 64 := by rw [← hT, told_size L4 hl4]; exact Nat.le_refl _
          rw [hT] at HF2 ⊢
          obtain ⟨hcl, hfr⟩ := Kd.R_celln ByteArray.empty HX3.out (at_ : Int) (by omega) (by omega)
          have hst := Kd.R_putn HX3.out (at_ : Int) T
          rw [Int.toNat_natCast] at hcl hfr hst
          have HX4 := As.mk hst
          have HGL : As (g ≤ w3.heap.size) := ⟨by rw [← HGG.out]; exact HB3.out.size⟩
          have HB4 : As (Below g w1 (w3.setCell ⟨g, at_, none⟩ (.string T))) := ⟨(HB3.out.mono (by rw [HGG.out]; exact Nat.le_refl _)).setCell (p := ⟨g, at_, none⟩) (Nat.le_refl g) _⟩
          have HS4 : As (∀ s ∈ xs.set at_ T, s.size ≤ 64) := ⟨fun s hs => by
            rcases List.mem_or_eq_of_mem_set hs with h | rfl
            · exact HS.out s h
            · exact hTs⟩
          clear k3 HX2 HB2 HX3 hT hst
          go_wp2_with (fail)
          exact ⟨⟨A5, k, c5, L5, xs.set at_ T, rfl, hl5, hc5, by omega, by rw [List.length_set]; exact hxl, HS4, H85, HC5, HF2, HX4, HB4⟩, by simp only [slLen]; omega⟩
  · have hB2 : B = false := by rw [← hB]; exact right_none b (by rw [idsOf, hn, if_neg hr])
    subst hB2
    have hrn := rows_no A c n w hz hr
    clear hB hC h8
    go_enter Try.func15, Try.ntmps15
    go_wp2_with (fail)
    refine hrn.mono ?_
    rintro e w1 ⟨rfl, rfl⟩
    go_wp2_with (fail)
    go_ret
    exact ⟨rfl, Below.refl _ _⟩
end Go.Proofs.Ytonhmjodgomeiaa.Ix

/- index.All: all names of an index. No condition but the bytes' number. -/
namespace Go.Proofs.Ytonhmjodgomeiaa.Ix
set_option linter.unusedVariables false
set_option linter.unusedSimpArgs false
open Go.RowKit Blk Dg Go.Proofs.YtonhmjodgomeiaaW.PrintWords Go.Proofs.YtonhmjodgomeiaaW.PrintLast Go.Proofs.YtonhmjodgomeiaaW.PrintMore

/-- The names of k rows. -/
def allG : Nat → List Int → List ByteArray
  | 0, _ => []
  | k + 1, L => toldS (L.take 32) :: allG k (L.drop 34)
noncomputable def allL (b : List Int) : List ByteArray := if rightB b = true then allG ((b.length - 544) / 34) (midL b) else []
theorem right_ok {b : List Int} (h : rightB b = true) : rowsOk b.length := by
  obtain ⟨ids, h1, _⟩ := (rightB_iff b).1 h
  rw [idsOf] at h1
  by_cases hr : rowsOk b.length
  · exact hr
  · rw [if_neg hr] at h1; cases h1
theorem allG_len : ∀ (k : Nat) (L : List Int), (allG k L).length = k
  | 0, _ => rfl
  | k + 1, L => by rw [allG, List.length_cons, allG_len k]
set_option maxHeartbeats 4000000 in
set_option maxRecDepth 100000 in
theorem all_calls (A : Option Addr) (c n : Nat) (b : List Int) (w : World) (hC : (Kd.int .u8).C w A n b) (hn : b.length = n) (hc : n ≤ c) (hz : n ≤ 1073741824) (h8 : ∀ x ∈ b, 0 ≤ x ∧ x < 256) :
    Calls Try.prog 18 #[.slice A n c] w fun e w' => ∃ v, e = .returned v ∧ Kd.string.R 9 w' w.heap.size (fun _ => True) v (allL b) ∧ Below w.heap.size w w' := by
  have hrc := right_calls A c n b w hC hn hc hz h8
  obtain ⟨F, hF⟩ : ∃ F, allL b = F := ⟨_, rfl⟩
  rw [hF]
  by_cases hr : rightB b = true
  · have hro := right_ok hr
    rw [hn] at hro
    rw [hr] at hrc
    rw [allL, if_pos hr, hn] at hF
    obtain ⟨A1, n1, c1, L1, hL1, hl1, hc1, hC1, hrows⟩ := rows_yes A c n b hn hc hz hro
    have hr' := hro
    unfold rowsOk at hr'
    obtain ⟨m, hm⟩ : ∃ m, (n - 544) / 34 = m := ⟨_, rfl⟩
    have hn1 : n1 = 34 * m := by
      rw [← hl1, ← hL1, midL, List.length_drop, List.length_take, hn]; omega
    have hm5 : m ≤ 512 := by omega
    rw [hm, hL1] at hF
    have H81 : As (∀ x ∈ L1, 0 ≤ x ∧ x < 256) := ⟨fun x hx => h8 x (by rw [← hL1, midL] at hx; exact List.mem_of_mem_take (List.mem_of_mem_drop hx))⟩
    have HF : As ([] ++ allG m L1 = F) := ⟨by rw [List.nil_append]; exact hF⟩
    have HC1 := As.mk (hC1 w hC)
    subst hn1
    have HRC := As.mk hrc
    have HR := As.mk hrows
    have HL1 := As.mk hl1
    clear hF hC hC1 h8 hn hrows hL1 hl1 hr hr' hm hrc hro
    go_enter Try.func18, Try.ntmps18
    go_wp2_with (fail)
    refine HRC.out.mono ?_
    rintro e w1 ⟨rfl, k1⟩
    have HB1 := As.mk k1
    clear k1 HRC
    go_wp2_with (fail)
    refine (HR.out _).mono ?_
    rintro e w2 ⟨rfl, rfl⟩
    go_wp2_with (fail)
    go_loopw [3, 4] (fun v3 v4 wr => ∃ (A2 : Option Addr) (k c2 : Nat) (L : List Int) (xs : List ByteArray), v4 = .slice A2 (34 * k) c2 ∧ L.length = 34 * k ∧ 34 * k ≤ c2 ∧ k + xs.length ≤ 512 ∧ As (∀ x ∈ L, 0 ≤ x ∧ x < 256) ∧ As ((Kd.int .u8).C w A2 (34 * k) L) ∧ As (xs ++ allG k L = F) ∧
      As (Kd.string.R 9 wr w.heap.size (fun _ => True) v3 xs) ∧ As (Below w.heap.size w wr)) (fun _ v4 _ => slLen v4)
    case atStart => exact ⟨A1, m, c1, L1, [], rfl, HL1.out, hc1, by simpa using hm5, H81, HC1, HF, ⟨Kd.R_nil _ _ _ _ _⟩, HB1⟩
    case round =>
      clear HF HC1 H81 HL1 HB1
      obtain ⟨A2, k, c2, L, xs, rfl, hLl, hc2, hkm, H82, HC2, HF, HX, HBr⟩ := hrel
      rcases k with _ | k
      · have hF := HF.out
        rw [allG, List.append_nil] at hF
        subst hF
        clear HF
        go_wp2_with (fail)
        go_ret
        exact ⟨_, rfl, HX.out, HBr.out⟩
      · obtain ⟨n4, L4, hL4, hl4, hc4, hs4, hC4⟩ := slice_take .i64 A2 (34 * (k + 1)) c2 L 32 (by decide) hLl (by omega) hc2
        obtain ⟨A5, n5, c5, L5, hL5, hl5, hc5, hs5, hC5⟩ := slice_drop .i64 A2 (34 * (k + 1)) c2 L 34 (by decide) hLl (by omega) hc2
        have hL4' : L.take 32 = L4 := hL4
        have hL5' : L.drop 34 = L5 := hL5
        have hn4 : n4 = 32 := by rw [← hl4, ← hL4', List.length_take, hLl]; omega
        have hn5 : n5 = 34 * k := by rw [← hl5, ← hL5', List.length_drop, hLl]; omega
        subst hn4 hn5
        have h84 : ∀ x ∈ L4, 0 ≤ x ∧ x < 256 := fun x hx => H82.out x (by rw [← hL4'] at hx; exact List.mem_of_mem_take hx)
        have H85 : As (∀ x ∈ L5, 0 ≤ x ∧ x < 256) := ⟨fun x hx => H82.out x (by rw [← hL5'] at hx; exact List.mem_of_mem_drop hx)⟩
        have hF := HF.out
        rw [allG, hL4', hL5'] at hF
        have HC5 := As.mk (hC5 w HC2.out)
        have HC4 := As.mk (Kd.C_below (hC4 w HC2.out) HBr.out)
        have HT4 := As.mk h84
        obtain ⟨T, hT⟩ : ∃ T, toldS L4 = T := ⟨_, rfl⟩
        have htc := fun W h => told_calls A2 c2 32 L4 W h hl4 hc4 (by decide) h84
        rw [hT] at hF htc
        have HTC := As.mk htc
        have HF2 : As ((xs ++ [T]) ++ allG k L5 = F) := ⟨by rw [List.append_assoc]; exact hF⟩
        have hl16 : (xs.length + 1) * 16 ≤ 140737488355328 := by omega
        clear hL4 hL5 hL4' hL5' h84 hF HF hC4 hC5 HC2 H82 htc hT
        go_wp2_with (fail)
        refine (HTC.out _ HC4.out).mono ?_
        rintro e w3 ⟨rfl, k3⟩
        have HB3 : As (Below w.heap.size w w3) := ⟨HBr.out.trans (k3.mono HBr.out.size)⟩
        have HX3 := As.mk (Kd.R_below HX.out k3)
        clear k3 HX HBr HTC HC4
        go_wp2_with (first
          | ((with_reducible refine gate_builtin (b := .append) (xs := #[.tmp 19, .tmp 23]) rfl ?_); at_builtin; refine Kd.R_append Kd.string (w0 := w) (W := w3) w.heap.size rfl (.tmp 19) (.tmp 23) 22 9 (.string ⟨#[]⟩) 16 rfl Try.underlying22 info_str rfl (by decide) (by decide) u3 xs T [.string T] (fun _ => True) (fun _ => False) rfl rfl rfl (fun _ hk => hk.elim) (fun _ _ => trivial) HX3.out HB3.out HB3.out.size hl16 ?_; intro v5 w5 ho hb hg hat; have HX5 := As.mk ho; have HB5 := As.mk hb; clear ho hb hg hat)
          | fail)
        exact ⟨⟨A5, k, c5, L5, xs ++ [T], rfl, hl5, hc5, by rw [List.length_append]; simp; omega, H85, HC5, HF2, HX5, HB5⟩, by simp only [slLen]; omega⟩
  · rw [Bool.not_eq_true] at hr
    rw [allL, if_neg (by rw [hr]; decide)] at hF
    subst hF
    rw [hr] at hrc
    clear hC h8 hr
    go_enter Try.func18, Try.ntmps18
    go_wp2_with (fail)
    refine hrc.mono ?_
    rintro e w1 ⟨rfl, k1⟩
    have HB1 := As.mk k1
    clear k1
    go_wp2_with (fail)
    go_ret
    exact ⟨_, rfl, Kd.R_nil _ _ _ _ _, HB1.out⟩
end Go.Proofs.Ytonhmjodgomeiaa.Ix
