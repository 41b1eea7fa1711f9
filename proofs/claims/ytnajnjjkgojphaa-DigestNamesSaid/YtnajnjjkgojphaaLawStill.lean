/- The statement DigestStill answers true, whatever bytes come in. No condition but the reach of what came in. -/
import Derived.Test.YtnajnjjkgojphaaDigHead
namespace Go.Proofs.Ytnajnjjkgojphaa.Dg
open Go.RowKit Blk Go.Proofs.YtnajnjjkgojphaaW.PrintWords Go.Proofs.YtnajnjjkgojphaaW.PrintLast Go.Proofs.YtnajnjjkgojphaaW.PrintMore
set_option linter.unusedVariables false
set_option linter.unusedSimpArgs false

/-- What a frame knows of a slice of bytes that came in, as a list. -/
theorem of_row {w : World} {a : Option Addr} {len cap : Nat} {zs : List Int}
    (h : (a = none ∧ len = 0 ∧ cap = 0 ∧ zs = []) ∨ ∃ x, a = some x ∧ len ≤ cap ∧ cap ≤ maxLen ∧ zs.length = cap ∧ (∀ i, i < zs.length → w.cell? (x.add i) = some (.int .u8 (zs.getD i 0))) ∧ ∀ n ∈ zs, (Lit.int .u8 n).wf = true) :
    ∃ l : List Int, l.length = len ∧ len ≤ cap ∧ len ≤ 9223372036854775807 ∧ (Kd.int .u8).C w a l.length l ∧ ∀ x ∈ l, 0 ≤ x ∧ x < 256 := by
  rcases h with ⟨rfl, rfl, rfl, rfl⟩ | ⟨x, rfl, hl, hm, hz, hc, hw⟩
  · exact ⟨[], rfl, Nat.le_refl _, by decide, Kd.C_nil _ _, by simp⟩
  · unfold maxLen at hm
    have hlen : (zs.take len).length = len := by simp; omega
    refine ⟨zs.take len, hlen, hl, by omega, ?_, fun y hy => ?_⟩
    · refine Kd.C_of_reads (enc := Value.int .u8) (d := (0 : Int)) ⟨rfl, by omega, fun _ => ⟨x, rfl, fun j hj => ?_⟩⟩
      rw [hc j (by omega)]
      simp [List.getElem?_take, show j < len by omega]
    · have := hw y (List.mem_of_mem_take hy)
      simp [Lit.wf, IntKind.min, IntKind.max, IntKind.signed, IntKind.bits] at this
      omega

set_option maxHeartbeats 4000000 in
set_option maxRecDepth 100000 in
theorem still_law (A : Option Addr) (c : Nat) (l : List Int) (w : World) (hC : (Kd.int .u8).C w A l.length l) (hc : l.length ≤ c) (hl : l.length ≤ 9223372036854775807) (h8 : ∀ x ∈ l, 0 ≤ x ∧ x < 256) :
    Calls Try.prog 7 #[.slice A l.length c] w fun e w' => e = .returned (.bool true) ∧ Below w.heap.size w w' := by
  have HC := As.mk hC
  have H8 := As.mk h8
  clear hC h8
  by_cases hbig : 20000 < l.length
  · go_enter Try.func7, Try.ntmps7
    go_wp2_with (fail)
    refine (head_calls _).mono ?_
    rintro e w1 ⟨rfl, hb⟩
    have HB := As.mk hb
    clear hb
    go_wp2_with (fail)
    go_ret
    exact ⟨rfl, HB.out⟩
  · go_enter Try.func7, Try.ntmps7
    go_wp2_with (fail)
    refine (head_calls _).mono ?_
    rintro e w1 ⟨rfl, hb⟩
    have HB := As.mk hb
    have HC1 := As.mk (Kd.C_below HC.out hb)
    clear hb
    have hcv := Kd.C_string (P := Try.prog) (A := A) (c := c) Try.underlying22 Try.underlying5 Try.underlying9 HC1.out
    have hz := zero_32
    go_wp2_with (fail)
    clear hcv
    refine (sum_calls A c l _ HC1.out hc (by omega) H8.out).mono ?_
    rintro e w2 ⟨rfl, hb⟩
    have hlen := shaL_len l
    have hsz : ((shaL l).map (Value.int .u8)).toArray.size = 32 := by simp [hlen]
    replace HB : As (Below w.heap.size w w2) := ⟨HB.out.trans (hb.mono HB.out.size)⟩
    have hnew : As ((w2.alloc (.cells Z32 24)).heap[w2.heap.size]? = some (.cells Z32 24 (0, 0))) := ⟨Row.new w2 (List.replicate 32 (.int .u8 0)) 24⟩
    have HL := As.mk hlen
    have HZ := As.mk hsz
    clear hb hlen hsz
    go_wp2_with (first
      | (refine wpList_store_row rfl 24 (.tmp 5) (.tmp 15) rfl w2.heap.size ((shaL l).map (Value.int .u8)).toArray rfl rfl 24 _ hnew.out (by rw [info_32, HZ.out]) (by rw [HZ.out]; rfl) (all_u8 _) ?_)
      | fail)
    have hR3 : As (Row ((w2.alloc (.cells Z32 24)).setRow w2.heap.size ((shaL l).map (Value.int .u8)).toArray) w2.heap.size 24 ((shaL l).map (Value.int .u8))) := ⟨setRow_heap _ _ _ _ _ _ hnew.out⟩
    have hB3 : As (Below w.heap.size w ((w2.alloc (.cells Z32 24)).setRow w2.heap.size ((shaL l).map (Value.int .u8)).toArray)) := ⟨below_setRow (HB.out.alloc HB.out.size _) HB.out.size _⟩
    clear HB hnew HC1
    generalize ((w2.alloc (.cells Z32 24)).setRow w2.heap.size ((shaL l).map (Value.int .u8)).toArray) = w3 at *
    refine (name_calls A c l _ (Kd.C_below HC.out hB3.out) hc (by omega) H8.out).mono ?_
    rintro e w4 ⟨rfl, hb⟩
    have hR4 := As.mk (hR3.out.below' hb)
    have hB4 : As (Below w.heap.size w w4) := ⟨hB3.out.trans (hb.mono hB3.out.size)⟩
    clear hb hR3 hB3
    go_wp2_with (fail)
    have hcv : ∀ x : QS.S w4, (convert 22 9 (.slice A l.length c)).run Try.prog x.1 = .ok (.string (strOfNums l)) x.1 := fun x =>
      Kd.C_string (P := Try.prog) (A := A) (c := c) Try.underlying22 Try.underlying5 Try.underlying9 (Kd.C_below HC.out (hB4.out.trans (x.2.mono hB4.out.size)))
    refine QS.region (by kernel_rfl) (by kernel_rfl) ?_
    have heq : (shaL l == shaL l) = true := by simp
    repeat (first
      | (go_big_quiet_step ((first
        | (go_at_call 10; exact QS.quiet (sum_calls A c l _ (Kd.C_below HC.out (hB4.out.trans ((QS.S.below _).mono hB4.out.size))) hc (by omega) H8.out))
        | (go_at_call 12; exact QS.quiet (name_calls A c l _ (Kd.C_below HC.out (hB4.out.trans ((QS.S.below _).mono hB4.out.size))) hc (by omega) H8.out)))))
      | (go_big_quiet_want; refine QS.quiet_run _ (fun x => QS.run_conv 22 9 (.tmp 20) rfl _ _ rfl (hcv x)) ?_; go_simp; go_big_quiet_on)
      | (go_big_quiet_want; refine QS.quiet_run _ (fun x => QS.run_load_row 24 (.tmp 5) rfl w2.heap.size rfl 24 ((shaL l).map (Value.int .u8)).toArray (0, 0) _ (hR4.out.below' x.2) Try.underlying24 rfl (by rw [info_32, HZ.out])) ?_; go_simp; go_big_quiet_on)
      | (go_big_quiet_want; refine QS.quiet_run (.bool true) (fun x => QS.run_eql_agg 24 24 (.tmp 27) (.tmp 28) rfl _ _ _ rfl rfl (by kernel_rfl) (by rw [eql_32 _ _ HL.out HL.out, heq])) ?_; go_simp; go_big_quiet_on))
    refine wpQuiet_nil ?_
    rintro _ ⟨x, rfl⟩
    go_wp2
    go_ret
    exact ⟨rfl, hB4.out.trans (x.below.mono hB4.out.size)⟩
end Go.Proofs.Ytnajnjjkgojphaa.Dg
