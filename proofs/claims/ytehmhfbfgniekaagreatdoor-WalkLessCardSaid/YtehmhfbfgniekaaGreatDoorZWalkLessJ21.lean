/- Joined texts: WkMet, WkMet2, WkClo, WkClo2a. No condition but what stands in each. -/
import Derived.Test.YtehmhfbfgniekaaGreatDoorZWalkLessJ19
import Derived.Test.YtehmhfbfgniekaaGreatDoorZWalkLessJ5
import Derived.Test.YtehmhfbfgniekaaGreatDoorZWalkLessJ20
import Derived.BigRegion
import Derived.OwnWalkIn
import Derived.TacticsInMore
import Derived.LoopNIn
import Derived.LoopIn
import Derived.Deep.CutRange
import Derived.Deep.DeepCutAuto
namespace Go.Proofs.YtehmhfbfgniekaaGreatDoor.Wk
set_option linter.unusedVariables false
set_option linter.unusedSimpArgs false
open Go Go.RowKit Go.Proofs.YtehmhfbfgniekaaGreatDoorW.PrintWords Go.Proofs.YtehmhfbfgniekaaGreatDoorW.PrintLast Go.Proofs.YtehmhfbfgniekaaGreatDoorW.PrintMore Ob PObBase PObDoc PWkB Mp Rw
abbrev Yl := ByteArray × Value
def encY (x : Yl) : Array Value := #[.string x.1, x.2]
def Pr (l : List Hd) (tips : List ByteArray) (m : Nat) (pre : List Yl) (x : Yl) (W : World) : Prop :=
  x.1 ∉ pre.map (·.1) ∧ Reach (nxt l) tips x.1 ∧ Kd.R k43 43 W m (fun _ => True) x.2 (wantsN l x.1) ∧ (pre.map (·.1)).length ≤ 30000000
def Qb (bx : List Nat) (B0 mb b : Nat) (A : World) : Prop := ∀ k, own bx A k → B0 ≤ k ∧ k ≠ mb ∧ k ≠ b ∧ k < A.heap.size
def Seen (w : World) (sb c : Nat) (ids : List ByteArray) : Prop :=
  ∃ m n, MapOf Tryz.prog 9 w sb n m ∧ n ≤ c ∧ (∀ s ∈ ids, ∃ q : Nat, m s = some (.int .i64 q) ∧ 1 ≤ q ∧ q ≤ c) ∧ (∀ s, s ∉ ids → m s = none)
theorem Seen.move {w w' : World} {sb c : Nat} {ids : List ByteArray} (h : Seen w sb c ids) (hb : w'.heap[sb]? = w.heap[sb]?) : Seen w' sb c ids := by
  obtain ⟨m, n, hM, r⟩ := h
  exact ⟨m, n, hM.move hb, r⟩
theorem Seen.lt {w : World} {sb c : Nat} {ids : List ByteArray} (h : Seen w sb c ids) : sb < w.heap.size := by
  obtain ⟨m, n, hM, r⟩ := h
  exact hM.lt
theorem Seen.made {w : World} {sb c : Nat} {ids : List ByteArray} (h : Seen w sb c ids) : ∃ es cl, w.heap[sb]? = some (.map es cl) := by
  obtain ⟨m, n, ⟨D, ⟨es, cl, h1, _⟩, _⟩, _⟩ := h
  exact ⟨es, cl, h1⟩
theorem wantsN_eq (l : List Hd) (s : ByteArray) : wantsN l s = wantsL ((fnd l s).getD z30).f0 ((fnd l s).getD z30).f1 := by
  unfold wantsN
  cases fnd l s with
  | some o => rfl
  | none => exact (show wantsL 0 ⟨#[]⟩ = [] by unfold wantsL; rw [show rightB 0 ⟨#[]⟩ = false from rfl]; rfl).symm
theorem fnd_data {l : List Hd} (h : Hsh l) (s : ByteArray) : ((fnd l s).getD z30).f1.size ≤ 400000000 := by
  cases hf : fnd l s with
  | none => show 0 ≤ _; omega
  | some o =>
    obtain ⟨x, hx, _, rfl⟩ := fnd_mem hf
    exact (h x hx).2
theorem snoc_cases {α : Type} (l : List α) : l = [] ∨ ∃ t x, l = t ++ [x] := by
  rcases l.eq_nil_or_concat with h | ⟨t, x, h⟩
  · exact .inl h
  · exact .inr ⟨t, x, by rw [h]; simp⟩
def Tsh (l : List ByteArray) : Prop := ∀ s ∈ l, s.size ≤ 1000000000
structure Mw (bx : List Nat) (B0 mb b kk : Nat) (l : List Hd) (w0 : World) (sb : Nat) (v : Value) (td : List ByteArray) (W : World) : Prop where
  row : Kd.R Kd.string 9 W sb (fun k => k ≠ sb ∧ ¬ own bx W k) v td
  nown : ¬ own bx W sb
  mbx : W.heap[mb]? = some (.cells #[.map (some b)] 60 (0, 0))
  mp : MapOf Tryz.prog 9 W b kk (bym l)
  low : Below B0 w0 W
  lt : mb < sb ∧ b < sb ∧ B0 ≤ sb ∧ sb < W.heap.size
  bxs : ∀ j ∈ bx, j < W.heap.size
variable {bx : List Nat} {B0 mb b kk : Nat} {l : List Hd} {w0 : World} {sb : Nat} {v : Value} {td : List ByteArray} {W W' : World}
theorem own_below (h : Mw bx B0 mb b kk l w0 sb v td W) (hb : Below W.heap.size W W') (k : Nat) : own bx W' k ↔ own bx W k :=
  (Chg.below (m := 0) hb).own h.bxs k
theorem Mw.seen (h : Mw bx B0 mb b kk l w0 sb v td W) (hg : W.grownBy W' (some sb)) : Mw bx B0 mb b kk l w0 sb v td W' := by
  have hc : Chg bx sb W W' := Chg.other hg (fun j e => by cases e; exact ⟨Nat.le_refl _, h.nown⟩)
  have ho := hc.own h.bxs
  refine ⟨?_, fun k => h.nown ((ho sb).1 k), ?_, ?_, ?_, ⟨h.lt.1, h.lt.2.1, h.lt.2.2.1, Nat.lt_of_lt_of_le h.lt.2.2.2 hg.size⟩, fun j hj => Nat.lt_of_lt_of_le (h.bxs j hj) hg.size⟩
  · exact Kd.R_mono (Kd.R_grown h.row hg (fun k hk e => hk.1 (by cases e; rfl))) (fun k hk => ⟨hk.1, fun q => hk.2 ((ho k).1 q)⟩)
  · exact (hg.block mb (blk_lt h.mbx) (fun e => by have := h.lt.1; cases e; omega)).trans h.mbx
  · exact h.mp.move (hg.block b h.mp.lt (fun e => by have := h.lt.2.1; cases e; omega))
  · exact h.low.grown hg (Nat.le_trans h.lt.2.2.1 (Nat.le_of_lt h.lt.2.2.2)) (fun k e => by cases e; exact h.lt.2.2.1)
theorem Mw.below (h : Mw bx B0 mb b kk l w0 sb v td W) (hb : Below W.heap.size W W') : Mw bx B0 mb b kk l w0 sb v td W' := by
  have ho := own_below h hb
  exact ⟨Kd.R_mono (Kd.R_below h.row hb) (fun k hk => ⟨hk.1, fun q => hk.2 ((ho k).1 q)⟩), fun k => h.nown ((ho sb).1 k), (hb.block mb (blk_lt h.mbx)).trans h.mbx, h.mp.below hb, h.low.trans (hb.mono (by have := h.lt; omega)), ⟨h.lt.1, h.lt.2.1, h.lt.2.2.1, Nat.lt_of_lt_of_le h.lt.2.2.2 hb.size⟩, fun j hj => Nat.lt_of_lt_of_le (h.bxs j hj) hb.size⟩
theorem Mw.round {m : Nat} (h : Mw bx B0 mb b kk l w0 sb v td W) (hk : Kpo bx m W W') (hq : ∀ k, own bx W k → B0 ≤ k ∧ k ≠ mb ∧ k ≠ b) (hm : B0 ≤ m) (hs : ∃ es cl, W.heap[sb]? = some (.map es cl)) : Mw bx B0 mb b kk l w0 sb v td W' := by
  obtain ⟨D, ⟨es, cl, hD, hr⟩, hr2⟩ := h.mp
  refine ⟨?_, fun k => h.nown (hk.own sb h.lt.2.2.2 k), hk.block mb _ h.mbx (.inr (fun r e => by cases e)) (fun o => (hq mb o).2.1 rfl), ⟨D, ⟨es, cl, hk.block b _ hD (.inr (fun r e => by cases e)) (fun o => (hq b o).2.2 rfl), hr⟩, hr2⟩, ?_, ⟨h.lt.1, h.lt.2.1, h.lt.2.2.1, Nat.lt_of_lt_of_le h.lt.2.2.2 hk.size⟩, fun j hj => Nat.lt_of_lt_of_le (h.bxs j hj) hk.size⟩
  · have h1 := Kd.R_bound h.row
    have h2 := Kd.R_move (w1 := W') h1 (fun k hk2 => by
      obtain ⟨⟨_, hno⟩, _, hlt, q, _, cs, hcs⟩ := hk2
      rw [hcs]
      exact hk.block k _ hcs (.inr (fun r e => by cases e)) hno)
    exact Kd.R_mono h2 (fun k hk2 => ⟨hk2.1.1, fun q => hk2.1.2 (hk.own k hk2.2.2.1 q)⟩)
  · refine ⟨hk.os.trans h.low.os, hk.tape.trans h.low.tape, hk.output.trans h.low.output, Nat.le_trans h.low.size hk.size, fun k hkb => ?_⟩
    have hlt : k < W.heap.size := by have := h.lt; omega
    rw [← h.low.block k hkb]
    have e : W.heap[k]? = some W.heap[k] := Array.getElem?_eq_getElem hlt
    rw [e]
    exact hk.block k _ e (.inl (by omega)) (fun o => by have := (hq k o).1; omega)
theorem Mw.append {v1 : Value} {td1 : List ByteArray} (h : Mw bx B0 mb b kk l w0 sb v td W) (hr : Kd.R Kd.string 9 W' sb (fun k => k ≠ sb ∧ ¬ own bx W k) v1 td1) (hg : W.grownBy W' v.ownBlock) : Mw bx B0 mb b kk l w0 sb v1 td1 W' ∧ Chg bx sb W W' ∧ W'.heap[sb]? = W.heap[sb]? := by
  have hv : ∀ j, v.ownBlock = some j → (sb ≤ j ∧ ¬ own bx W j) ∧ j ≠ sb := fun j e => ⟨⟨Kd.R_base h.row j e, (h.row.1 j e).2⟩, (h.row.1 j e).1⟩
  have hc : Chg bx sb W W' := Chg.other hg (fun j e => (hv j e).1)
  have ho := hc.own h.bxs
  have hsb : W'.heap[sb]? = W.heap[sb]? := hg.block sb h.lt.2.2.2 (fun e => (hv sb e.symm).2 rfl)
  refine ⟨⟨Kd.R_mono hr (fun k hk => ⟨hk.1, fun q => hk.2 ((ho k).1 q)⟩), fun k => h.nown ((ho sb).1 k), ?_, ?_, ?_, ⟨h.lt.1, h.lt.2.1, h.lt.2.2.1, Nat.lt_of_lt_of_le h.lt.2.2.2 hg.size⟩, fun j hj => Nat.lt_of_lt_of_le (h.bxs j hj) hg.size⟩, hc, hsb⟩
  · exact (hg.block mb (blk_lt h.mbx) (fun e => by have := h.lt.1; have := (hv mb e.symm).1.1; omega)).trans h.mbx
  · exact h.mp.move (hg.block b h.mp.lt (fun e => by have := h.lt.2.1; have := (hv b e.symm).1.1; omega))
  · exact h.low.grown hg (by have := h.lt; omega) (fun k e => by have := (hv k e).1.1; have := h.lt.2.2.1; omega)
theorem Mw.take {A : Option Addr} {n c m : Nat} (h : Mw bx B0 mb b kk l w0 sb (.slice A n c) td W) (hm : m ≤ td.length) : Mw bx B0 mb b kk l w0 sb (.slice A m c) (td.take m) W :=
  ⟨Kd.R_take h.row hm, h.nown, h.mbx, h.mp, h.low, h.lt, h.bxs⟩
end Go.Proofs.YtehmhfbfgniekaaGreatDoor.Wk

namespace Go.Proofs.YtehmhfbfgniekaaGreatDoor.Wk
set_option linter.unusedVariables false
set_option linter.unusedSimpArgs false
open Go Go.RowKit Go.Proofs.YtehmhfbfgniekaaGreatDoorW.PrintWords Go.Proofs.YtehmhfbfgniekaaGreatDoorW.PrintLast Go.Proofs.YtehmhfbfgniekaaGreatDoorW.PrintMore Ob PObBase PObDoc PWkB Mp Rw
theorem last_at (t : List ByteArray) (s : ByteArray) : rdOf ByteArray.empty (t ++ [s]) (t.length : Int) = s := by simp [rdOf]
theorem wr_sub (q : Nat) (h : q ≤ 1000000000) : wrap64 (((q + 1 : Nat) : Int) - 1) = q := by unfold wrap64; omega
theorem wr_sub2 (q : Nat) (h : q ≤ 1000000000) : wrap64 ((q : Int) + 1 - 1) = q := by unfold wrap64; omega
theorem wants_named (l : List Hd) (s : ByteArray) : ∀ x ∈ wantsN l s, x.f0.size = 64 := by
  intro x hx
  rw [wantsN_eq] at hx
  cases hr : rightB ((fnd l s).getD z30).f0 ((fnd l s).getD z30).f1 with
  | false => rw [wants_no hr] at hx; cases hx
  | true => exact nm_size (wants_ok hr x hx).1
theorem wantsN_len (l : List Hd) (s : ByteArray) : (wantsN l s).length ≤ 256 := by rw [wantsN_eq]; exact wants_len _ _
theorem flat_len {f : ByteArray → List ByteArray} {M : Nat} (h : ∀ s, (f s).length ≤ M) : ∀ ks : List ByteArray, (ks.flatMap f).length ≤ ks.length * M
  | [] => by simp
  | k :: r => by
    rw [List.flatMap_cons, List.length_append, List.length_cons, Nat.succ_mul]
    have := h k
    have := flat_len h r
    omega
theorem reach_len (l : List Hd) (tips xs : List ByteArray) (hn : xs.Nodup) (hr : ∀ s ∈ xs, Reach (nxt l) tips s) : xs.length ≤ tips.length + l.length * 256 := by
  have hs : ∀ s, Reach (nxt l) tips s → s ∈ tips ++ (l.map (·.f0)).flatMap (nxt l) := fun s h => h.sub (fun s hs => List.mem_append.2 (.inl hs)) (fun s t _ ht => List.mem_append.2 (.inr (List.mem_flatMap.2 ⟨s, (nxt_key l s).resolve_right (fun e => by rw [e] at ht; cases ht), ht⟩)))
  have := hn.length_le_of_subset (fun s h => hs s (hr s h))
  rw [List.length_append] at this
  have h2 := flat_len (f := nxt l) (M := 256) (fun s => by unfold nxt; rw [List.length_map]; exact wantsN_len l s) (l.map (·.f0))
  rw [List.length_map] at h2
  omega
set_option maxHeartbeats 16000000 in
set_option maxRecDepth 100000 in
theorem met_iter (n : Nat) (bx : List Nat) (B0 tb mb b kk : Nat) (l : List Hd) (tips : List ByteArray) (At : Option Addr) (ct : Nat) (w0 w : World)
    (hTb : w.heap[tb]? = some (.cells #[.slice At tips.length ct] 23 (0, 0))) (hMb : w.heap[mb]? = some (.cells #[.map (some b)] 60 (0, 0)))
    (hM : MapOf Tryz.prog 9 w b kk (bym l)) (hC : Kd.C Kd.string w At tips.length tips) (hct : tips.length ≤ ct)
    (hT : Tbl w0) (hw0 : w0.heap.size = B0) (hB0 : Below B0 w0 w) (hl : Hsh l) (hts : Tsh tips) (hn1 : tips.length ≤ 1000000) (hn2 : l.length ≤ 100000) :
    Iterates Fence.wide n Tryz.prog 45 #[.pointer (some ⟨tb, 0, none⟩), .pointer (some ⟨mb, 0, none⟩)] encY (Kpo bx w.heap.size) (Pr l tips w.heap.size) (fun m => Chg bx m) (Qb bx B0 mb b) (fun xs => Told (nxt l) tips (xs.map (·.1))) (fun _ => True) w := by
  intro lp J Jx W hb hJ hQ hY h0
  refine callsIn_wide.2 ?_
  have hmm := @run_makeMap Tryz.prog
  have hmax : Go.maxLen = 9223372036854775807 := rfl
  go_enter Tryz.func45, Tryz.ntmps45
  obtain ⟨sb, hsb⟩ : ∃ sb, W.heap.size = sb := ⟨_, rfl⟩
  obtain ⟨W1, hW1⟩ : ∃ W1, W.alloc (.map #[] 0) = W1 := ⟨_, rfl⟩
  have hs1 : W1.heap.size = sb + 1 := by rw [← hW1, World.size_alloc, hsb]
  have hb1 : Below W.heap.size W W1 := by rw [← hW1]; exact below_new _ _
  have hbw1 : Below w.heap.size w W1 := hb.trans (hb1.mono hb.size)
  have ht0 : W1.cell? ⟨tb, 0, none⟩ = some (.slice At tips.length ct) := (blk_cell ((hbw1.block tb (blk_lt hTb)).trans hTb) 0).trans rfl
  have HCL := As.mk (clone_walk At tips.length ct tips W1 (Kd.C_below hC hbw1) rfl hct (by omega))
  have HMM : As (MapOf Tryz.prog 9 W1 sb 0 (fun _ => none)) := ⟨by rw [← hW1, ← hsb]; exact mapOf_made W _ _⟩
  have HQ := As.mk hQ
  have HJ := As.mk hJ
  have HY := As.mk hY
  have HB := As.mk hb
  have HB1 := As.mk hb1
  have HMB := As.mk hMb
  have HMP := As.mk hM
  have HB0 := As.mk hB0
  have HT := As.mk hT
  have HL := As.mk hl
  have HTS := As.mk hts
  have hwB : B0 ≤ w.heap.size := by have := hB0.size; omega
  have H0 := As.mk h0
  clear hb hJ hQ hY hb1 hbw1 hMb hM hB0 hT hl hts hTb hC h0
  go_wp2_with (fail)
  refine HCL.out.mono ?_
  rintro e w2 ⟨v, rfl, hR, hb2⟩
  have hbW2 : Below W.heap.size W w2 := HB1.out.trans (hb2.mono HB1.out.size)
  have hq0 := HQ.out [] W H0.out
  have hbx : ∀ j ∈ bx, j < W.heap.size := fun j hj => (hq0 j (.inl hj)).2.2.2
  have hown2 : ∀ k, own bx w2 k → k < sb := fun k hk => by
    have := (hq0 k (((Chg.below (m := 0) hbW2).own hbx k).1 hk)).2.2.2
    omega
  have hbw2 : Below w.heap.size w w2 := HB.out.trans (hbW2.mono HB.out.size)
  have HW2 : As (Mw bx B0 mb b kk l w0 sb v tips w2) := ⟨{
    row := Kd.R_mono (Kd.R_lower (Kd.R_bound hR) (by omega)) (fun k hk => ⟨by have := hk.2.1; omega, fun q => by have := hown2 k q; have := hk.2.1; omega⟩)
    nown := fun q => by have := hown2 sb q; omega
    mbx := (hbw2.block mb (blk_lt HMB.out)).trans HMB.out
    mp := HMP.out.below hbw2
    low := HB0.out.trans (hbw2.mono hwB)
    lt := ⟨by have := blk_lt HMB.out; have := HB.out.size; omega, by have := HMP.out.lt; have := HB.out.size; omega, by have := HB.out.size; omega, by have := hb2.size; omega⟩
    bxs := fun j hj => Nat.lt_of_lt_of_le (hbx j hj) hbW2.size }⟩
  have HS2 : As (Seen w2 sb 0 []) := ⟨⟨fun _ => none, 0, HMM.out.below hb2, Nat.le_refl _, fun s hs => (by cases hs), fun _ _ => rfl⟩⟩
  have HJ2 : As (J [] w2) := ⟨HJ.out [] W w2 H0.out (Chg.below hbW2)⟩
  have HWS := As.mk hsb
  have hmu := Mu.le (nxt l) (l.map (·.f0)) [] 256 (fun k => by unfold nxt; rw [List.length_map]; exact wantsN_len l k)
  rw [List.length_map] at hmu
  clear hbW2 hq0 hbx hown2 hbw2 hR hb2 hs1 hW1 ht0 HMM HCL hsb
  go_wp2_with (fail)
  go_loopg [5] (tips.length + l.length * 256) (fun gg v5 wr => ∃ (pre : List Yl) (td : List ByteArray) (c : Nat), td.length + Mu (nxt l) (l.map (·.f0)) (pre.map (·.1)) ≤ gg ∧ c + gg ≤ 100000000 ∧ As (Mw bx B0 mb b kk l w0 sb v5 td wr) ∧ As (Sn (nxt l) tips (pre.map (·.1)) td ∧ (pre.map (·.1)).Nodup ∧ Tsh td) ∧ As (Seen wr sb c (pre.map (·.1))) ∧ As (J pre wr))
  case atStart => exact ⟨[], tips, 0, by simp only [List.map_nil]; omega, by omega, HW2, ⟨Sn.first, List.nodup_nil, HTS.out⟩, HS2, HJ2⟩
  case round =>
    obtain ⟨pre, td, c, hgg, hcg, HM, HP, HS, HJp⟩ := hrel
    clear hmu
    obtain ⟨μ, hμ⟩ : ∃ μ, Mu (nxt l) (l.map (·.f0)) (pre.map (·.1)) = μ := ⟨_, rfl⟩
    rw [hμ] at hgg
    have HMU := As.mk hμ
    clear hμ
    obtain ⟨A5, c5, hv5, hc5, hC5⟩ := Kd.R_reads HM.out.row
    subst hv5
    rcases snoc_cases td with rfl | ⟨t, s, rfl⟩
    · clear hC5
      go_wp2_with (fail)
      go_end0
      exact ⟨⟨_, rfl⟩, .inl ⟨pre, ⟨HP.out.2.1, fun s => HP.out.1.done s⟩, HJp.out⟩⟩
    · obtain ⟨q, hq⟩ : ∃ q, t.length = q := ⟨_, rfl⟩
      have hlen : (t ++ [s]).length = q + 1 := by rw [List.length_append, hq]; rfl
      have hlast := last_at t s
      rw [hq] at hlast
      have htk : (t ++ [s]).take q = t := by rw [← hq]; exact List.take_left
      rw [hlen] at hgg HM hc5 hC5
      rw [hlen]
      have hqm : q + 1 ≤ 100000000 := by omega
      obtain ⟨ad, rfl, g0⟩ := at_txt hC5 (q : Int) (by omega) (by omega)
      rw [hlast, Int.toNat_natCast] at g0
      have hss : s.size ≤ maxLen := by have := HP.out.2.2 s (by simp); omega
      have hqb : q ≤ 1000000000 := by omega
      have HMT : As (Mw bx B0 mb b kk l w0 sb (.slice (some ad) q c5) t wr) := ⟨by have := HM.out.take (m := q) (by rw [hlen]; omega); rwa [htk] at this⟩
      have HTT : As (Tsh t) := ⟨fun x hx => HP.out.2.2 x (by simp [hx])⟩
      have HTD : As (∀ x, x ∈ t ++ [s] ↔ x = s ∨ x ∈ t) := ⟨fun x => by simp [or_comm]⟩
      clear hC5 HM hlast htk hlen
      obtain ⟨m, nn, hMs, hnn, h1, h2⟩ := HS.out
      have hnm : nn < maxLen := by omega
      have hcb : c ≤ 100000000 := by omega
      have HG := As.mk (And.intro hgg hcg)
      have HNN := As.mk hnn
      have hw1 := wr_sub q hqb
      have hw2 := wr_sub2 q hqb
      clear hgg hcg hnn HS
      by_cases hin : s ∈ pre.map (·.1)
      · obtain ⟨qv, hqv, hq1, hq2⟩ := h1 s hin
        have hv1 : (m s).getD (.int .i64 0) = .int .i64 qv := by rw [hqv]; rfl
        have hqvb : qv ≤ 1000000000 := Nat.le_trans hq2 (Nat.le_trans hcb (by decide))
        have hgt : decide ((qv : Int) + 1 > 1) = true := decide_eq_true (Int.lt_add_of_pos_left 1 (Int.natCast_pos.2 hq1))
        have HIN := As.mk hin
        have H12 := As.mk (And.intro h1 h2)
        have HQV := As.mk (And.intro hq1 hq2)
        clear h1 h2 hqv hin hq1 hq2
        have hv2 : (put m s (.int .i64 ((qv : Int) + 1)) s).getD (.int .i64 0) = .int .i64 ((qv : Int) + 1) := by simp [put]
        go_wp2_with (first
          | (at_mapUpdate; refine wpList_store _ rfl _ _ _ _ rfl 9 3 Tryz.underlying9 Tryz.underlying85 sb nn m rfl hMs hnm s (.int .i64 ((qv : Int) + 1)) rfl rfl hss ?_; intro w1 hM1 hT1)
          | (at_lookup; first | refine wpList_look _ rfl _ _ _ rfl 9 3 Tryz.underlying9 Tryz.underlying85 (.int .i64 0) rfl sb nn m rfl hMs s rfl hss _ hv1 ?_ | refine wpList_look _ rfl _ _ _ rfl 9 3 Tryz.underlying9 Tryz.underlying85 (.int .i64 0) rfl sb (nn + 1) _ rfl hM1 s rfl hss _ hv2 ?_)
          | fail)
        have HM1 := As.mk hM1
        have HT1 := As.mk hT1.grown
        clear hM1 hT1 hv1 hv2 hw1 hw2
        have hg1 := HG.out.1
        have hg2 := HG.out.2
        have hn1 := HNN.out
        have HC1 : As (Chg bx sb wr w1) := ⟨Chg.other HT1.out (fun j e => by cases e; exact ⟨Nat.le_refl _, HMT.out.nown⟩)⟩
        go_roundg (gk - 1)
        case measure => omega
        case rel =>
          refine ⟨pre, t, c + 1, by rw [hq, HMU.out]; omega, by omega, ⟨HMT.out.seen HT1.out⟩, ⟨HP.out.1.skip HTD.out HIN.out, HP.out.2.1, HTT.out⟩, ⟨⟨_, nn + 1, HM1.out, by omega, fun x hx => ?_, fun x hx => ?_⟩⟩, ⟨HJ.out pre wr w1 HJp.out (by rw [HWS.out]; exact HC1.out)⟩⟩
          · unfold put
            by_cases e : x = s
            · rw [if_pos e]
              have := HQV.out
              exact ⟨qv + 1, rfl, by omega, by omega⟩
            · rw [if_neg e]
              obtain ⟨y, hy, hy1, hy2⟩ := H12.out.1 x hx
              exact ⟨y, hy, hy1, by omega⟩
          · unfold put
            rw [if_neg (fun e : x = s => hx (by rw [e]; exact HIN.out))]
            exact H12.out.2 x hx
      · have hm0 := h2 s hin
        have hv1 : (m s).getD (.int .i64 0) = .int .i64 0 := by rw [hm0]; rfl
        have hv2 : (put m s (.int .i64 1) s).getD (.int .i64 0) = .int .i64 1 := by simp [put]
        have HIN := As.mk hin
        have H12 := As.mk (And.intro h1 h2)
        obtain ⟨o, ho⟩ : ∃ o, (fnd l s).getD z30 = o := ⟨_, rfl⟩
        have hvo : (bym l s).getD (.agg #[.int .i64 0, .string ⟨#[]⟩]) = .agg #[.int .i64 o.f0, .string o.f1] := by
          rw [← ho]; unfold bym
          cases fnd l s <;> rfl
        have HO := As.mk ho
        have hMp := HMT.out.mp
        have hmb0 : wr.cell? ⟨mb, 0, none⟩ = some (.map (some b)) := (blk_cell HMT.out.mbx 0).trans rfl
        have hsbm : sb ≠ mb := by have := HMT.out.lt; omega
        have hsbb : b ≠ sb := by have := HMT.out.lt; omega
        clear h1 h2 hin hm0 ho
        go_wp2_with (first
          | (at_mapUpdate; refine wpList_store _ rfl _ _ _ _ rfl 9 3 Tryz.underlying9 Tryz.underlying85 sb nn m rfl hMs hnm s (.int .i64 1) rfl rfl hss ?_; intro w1 hM1 hT1; have hmb1 : w1.cell? ⟨mb, 0, none⟩ = some (.map (some b)) := (blk_cell ((turned_other hT1 hsbm.symm).trans HMT.out.mbx) 0).trans rfl; have hMp1 := hMp.move (turned_other hT1 hsbb))
          | (at_lookup; first | refine wpList_look _ rfl _ _ _ rfl 9 3 Tryz.underlying9 Tryz.underlying85 (.int .i64 0) rfl sb nn m rfl hMs s rfl hss _ hv1 ?_ | refine wpList_look _ rfl _ _ _ rfl 9 3 Tryz.underlying9 Tryz.underlying85 (.int .i64 0) rfl sb (nn + 1) _ rfl hM1 s rfl hss _ hv2 ?_ | refine wpList_look _ rfl _ _ _ rfl 9 30 Tryz.underlying9 Tryz.underlying60 (.agg #[.int .i64 0, .string ⟨#[]⟩]) rfl b kk _ rfl hMp1 s rfl hss _ hvo ?_)
          | fail)
        have HW1 : As (Mw bx B0 mb b kk l w0 sb (.slice (some ad) q c5) t w1) := ⟨HMT.out.seen hT1.grown⟩
        have HC1 : As (Chg bx sb wr w1) := ⟨Chg.other hT1.grown (fun j e => by cases e; exact ⟨Nat.le_refl _, HMT.out.nown⟩)⟩
        have HM1 := As.mk hM1
        clear hM1 hT1 hmb1 hMp1 hv1 hv2 hvo hmb0 hMp hMs
        refine (wants_walk o.f0 o.f1 (by rw [← HO.out]; exact fnd_data HL.out s) w1 (HT.out.below (by rw [hw0]; exact HW1.out.low))).mono ?_
        rintro e w2' ⟨v2, rfl, hR2, hb2⟩
        have hwn : wantsL o.f0 o.f1 = wantsN l s := by rw [wantsN_eq, HO.out]
        rw [hwn] at hR2
        have HW2' := As.mk (HW1.out.below hb2)
        have HJ2' : As (J pre w2') := ⟨HJ.out pre w1 w2' (HJ.out pre wr w1 HJp.out (by rw [HWS.out]; exact HC1.out)) (Chg.below hb2)⟩
        have HS2' : As (Seen w2' sb (c + 1) ((pre ++ [(s, v2)]).map (·.1))) := ⟨by
          have : Seen w1 sb (c + 1) ((pre ++ [(s, v2)]).map (·.1)) := by
            refine ⟨_, nn + 1, HM1.out, by have := HNN.out; omega, fun x hx => ?_, fun x hx => ?_⟩
            · rw [List.map_append, List.mem_append] at hx
              unfold put
              by_cases e : x = s
              · rw [if_pos e]; exact ⟨1, rfl, by omega, by omega⟩
              · rw [if_neg e]
                rcases hx with hx | hx
                · obtain ⟨y, hy, hy1, hy2⟩ := H12.out.1 x hx
                  exact ⟨y, hy, hy1, by omega⟩
                · exact absurd (List.mem_singleton.1 hx) e
            · rw [List.map_append, List.mem_append] at hx
              unfold put
              rw [if_neg (fun e : x = s => hx (.inr (by rw [e]; exact List.mem_singleton_self _)))]
              exact H12.out.2 x (fun h => hx (.inl h))
          exact this.move (hb2.block sb this.lt)⟩
        have HPR : As (Pr l tips w.heap.size pre (s, v2) w2') := ⟨⟨HIN.out, HP.out.1.b s (by simp), Kd.R_lower hR2 (by have := HW1.out.lt; have := HB.out.size; have := HWS.out; omega), by have := reach_len l tips _ HP.out.2.1 HP.out.1.a; omega⟩⟩
        have HR2 : As (Kd.R k43 43 w2' w1.heap.size (fun k => k ≠ sb ∧ ¬ own bx w2' k) v2 (wantsN l s)) := ⟨Kd.R_mono (Kd.R_bound hR2) (fun k hk => ⟨by have := hk.2.1; have := HW1.out.lt; omega, fun ho => by
          have h1 := (own_below HW1.out hb2 k).1 ho
          have h2 := (HQ.out pre w1 (HJ.out pre wr w1 HJp.out (by rw [HWS.out]; exact HC1.out)) k h1).2.2.2
          have := hk.2.1
          omega⟩)⟩
        have hlen := wantsN_len l s
        clear hR2 hb2 hwn
        have hyv := HY.out pre (s, v2) w2' HJ2'.out HPR.out
        obtain ⟨fn, tmps, assign, body, hy, hRd⟩ := hyv
        dsimp only [encY] at hy
        go_upto_region 8 with fail
        refine (wpIn_wide (n := n)).1 ?_
        gi_wp2
        refine ⟨(fun h => (by cases h)), hRd.mono ?_⟩
        clear hRd hy
        rintro e wy (⟨rfl, hJy, hky⟩ | ⟨rfl, hJxy⟩)
        · have hq2 := HQ.out pre w2' HJ2'.out
          obtain ⟨es, cl, hmd⟩ := HS2'.out.made
          have HWy := As.mk (HW2'.out.round hky (fun k hk => ⟨(hq2 k hk).1, (hq2 k hk).2.1, (hq2 k hk).2.2.1⟩) hwB ⟨es, cl, hmd⟩)
          have HSy : As (Seen wy sb (c + 1) ((pre ++ [(s, v2)]).map (·.1))) := ⟨HS2'.out.move ((hky.block sb _ hmd (.inr (fun r e => by cases e)) HW2'.out.nown).trans hmd.symm)⟩
          have HRy : As (Kd.R k43 43 wy sb (fun k => k ≠ sb ∧ ¬ own bx wy k) v2 (wantsN l s)) := ⟨by
            have h1 := Kd.R_bound HR2.out
            have h2 := Kd.R_move (w1 := wy) h1 (fun k hk2 => by
              obtain ⟨⟨_, hno⟩, _, hlt, q, _, cs, hcs⟩ := hk2
              rw [hcs]
              exact hky.block k _ hcs (.inr (fun r e => by cases e)) hno)
            exact Kd.R_mono (Kd.R_lower h2 (by have := HW1.out.lt; omega)) (fun k hk2 => ⟨hk2.1.1, fun q => hk2.1.2 (hky.own k hk2.2.2.1 q)⟩)⟩
          have HJy := As.mk hJy
          obtain ⟨A7, c7, hv7, hc7, hC7⟩ := Kd.R_reads HRy.out
          subst hv7
          obtain ⟨ids, hids⟩ : ∃ ids, wantsN l s = ids := ⟨_, rfl⟩
          have HIDS := As.mk hids
          rw [hids] at HRy HSy HJy hc7 hlen ⊢
          obtain ⟨n7, hn7⟩ : ∃ n7, ids.length = n7 := ⟨_, rfl⟩
          have HN7 := As.mk hn7
          rw [hn7] at HRy HSy HJy hc7 hlen ⊢
          have HG2 := As.mk (And.intro hq HG.out)
          clear hq2 hmd hky hJy hC7 hids hn7 hq HR2 HS2' HJ2' HPR HW2'
          gi_wp2
          go_wp2_with (fail)
          go_loopw [5, 46] (fun v5 v46 wq => ∃ i : Nat, v46 = .int .i64 i ∧ i ≤ n7 ∧ As (Mw bx B0 mb b kk l w0 sb v5 (t ++ (ids.take i).map (·.f0)) wq) ∧ As (Seen wq sb (c + 1) ((pre ++ [(s, Value.slice A7 n7 c7)]).map (·.1))) ∧ As (J (pre ++ [(s, Value.slice A7 n7 c7)]) wq) ∧ As (Kd.R k43 43 wq sb (fun k => k ≠ sb ∧ ¬ own bx wq k) (.slice A7 n7 c7) ids)) (fun _ v46 _ => n7 - (intOf v46).toNat)
          case atStart => exact ⟨0, rfl, by omega, ⟨by rw [List.take_zero, List.map_nil, List.append_nil]; exact HWy.out⟩, HSy, HJy, HRy⟩
          case round =>
            obtain ⟨i, rfl, hi, HMq, HSq, HJq, HRq⟩ := hrel
            by_cases hlt : i < n7
            · have hil : i < ids.length := by rw [HN7.out]; exact hlt
              have hCq := (Kd.R_reads' HRq.out).2.2
              rw [HN7.out] at hCq
              obtain ⟨ad7, hA7, g70, g71⟩ := at_T43 hCq (i : Int) (by omega) (by omega)
              rw [Int.toNat_natCast] at g70 g71
              obtain ⟨x, hx⟩ : ∃ x, rd_T43 ids (i : Int) = x := ⟨_, rfl⟩
              have HX : As (ids[i]? = some x) := ⟨by rw [← hx]; simp [rd_T43, hil]⟩
              rw [hx] at g70 g71
              subst hA7
              obtain ⟨W', hW'⟩ : ∃ W', wr.alloc (.cells #[.string x.f0, .int .i64 x.f1] 43) = W' := ⟨_, rfl⟩
              have hbq : Below wr.heap.size wr W' := by rw [← hW']; exact below_new _ _
              have hKq : W'.heap[wr.heap.size]? = some (.cells #[.string x.f0, .int .i64 x.f1] 43 (0, 0)) := by rw [← hW']; exact blk_new wr _
              have hd0 : W'.cell? ⟨wr.heap.size, 0, none⟩ = some (.string x.f0) := (blk_cell hKq 0).trans rfl
              have HW' := As.mk (HMq.out.below hbq)
              have HJ' : As (J (pre ++ [(s, Value.slice (some ad7) n7 c7)]) W') := ⟨HJ.out _ wr W' HJq.out (Chg.below hbq)⟩
              have hfr : ∀ k, W'.heap.size ≤ k → k ≠ sb ∧ ¬ own bx W' k := fun k hk => ⟨by have := HW'.out.lt; omega, fun ho => by have := (HQ.out _ W' HJ'.out k ho).2.2.2; omega⟩
              have HR' : As (Kd.R k43 43 W' sb (fun k => k ≠ sb ∧ ¬ own bx W' k) (.slice (some ad7) n7 c7) ids) := ⟨Kd.R_mono (Kd.R_below HRq.out hbq) (fun k hk => ⟨hk.1, fun q => hk.2 ((own_below HMq.out hbq k).1 q)⟩)⟩
              have HS' : As (Seen W' sb (c + 1) ((pre ++ [(s, Value.slice (some ad7) n7 c7)]).map (·.1))) := ⟨HSq.out.move (hbq.block sb HSq.out.lt)⟩
              have hl2 : ((t ++ (ids.take i).map (·.f0)).length + 1) * 16 ≤ 140737488355328 := by
                rw [List.length_append, List.length_map, List.length_take, HG2.out.1]; omega
              have hrow := HW'.out.row
              have hsbl : sb ≤ W'.heap.size := by have := HW'.out.lt; omega
              clear hx hil hCq hbq hKq
              go_wp2_with (first
                | ((with_reducible refine gate_builtin (b := .append) (xs := #[.tmp 50, .tmp 53]) rfl ?_); at_builtin; refine Kd.R_append Kd.string (w0 := W') (W := W') sb rfl (.tmp 50) (.tmp 53) 23 9 (.string ⟨#[]⟩) 16 rfl Tryz.underlying23 info_str rfl (by decide) (by omega) u5 (t ++ (ids.take i).map (·.f0)) x.f0 [.string x.f0] (fun k => k ≠ sb ∧ ¬ own bx W' k) (fun _ => False) rfl rfl rfl (fun _ hk => hk.elim) hfr hrow (Below.refl _ _) hsbl hl2 ?_; intro v9 w9 ho9 hb9 hg9 hat9)
                | fail)
              obtain ⟨HM9, HC9, hsb9⟩ := HW'.out.append ho9 hg9
              have HR9 : As (Kd.R k43 43 w9 sb (fun k => k ≠ sb ∧ ¬ own bx w9 k) (.slice (some ad7) n7 c7) ids) := ⟨Kd.R_mono (Kd.R_over HR'.out hrow (by decide) hg9) (fun k hk => ⟨hk.1, fun q => hk.2 ((HC9.own HW'.out.bxs k).1 q)⟩)⟩
              have HJ9 : As (J (pre ++ [(s, Value.slice (some ad7) n7 c7)]) w9) := ⟨HJ.out _ W' w9 HJ'.out (by rw [HWS.out]; exact HC9)⟩
              have HS9 := As.mk (HS'.out.move hsb9)
              have HST : As (t ++ (ids.take (i + 1)).map (·.f0) = (t ++ (ids.take i).map (·.f0)) ++ [x.f0]) := ⟨by rw [take_snoc HX.out, List.map_append, List.append_assoc]; rfl⟩
              have HM9 := As.mk HM9
              clear ho9 hb9 hg9 hat9 HC9 hsb9 hrow hfr
              exact ⟨⟨i + 1, by go_num, by omega, ⟨by rw [HST.out]; exact HM9.out⟩, HS9, HJ9, HR9⟩, by simp [intOf]; omega⟩
            · have hin : i = n7 := by omega
              subst hin
              go_wp2_with (fail)
              have hmq := HMq.out
              rw [List.take_of_length_le (by rw [HN7.out]; exact Nat.le_refl _)] at hmq
              have HMF := As.mk hmq
              have HSP : As ((pre ++ [(s, Value.slice A7 i c7)]).map (·.1) = pre.map (·.1) ++ [s]) := ⟨by rw [List.map_append]; rfl⟩
              have HNX : As (nxt l s = ids.map (·.f0)) := ⟨by unfold nxt; rw [HIDS.out]⟩
              have hseen : ∀ x, x ∈ pre.map (·.1) ++ [s] ↔ x = s ∨ x ∈ pre.map (·.1) := fun x => by rw [List.mem_append, List.mem_singleton, or_comm]
              have hmt := Mu.take (nxt := nxt l) (keys := l.map (·.f0)) HIN.out hseen (nxt_key l s)
              rw [HMU.out, HNX.out, List.length_map, HN7.out] at hmt
              have HMT2 := As.mk hmt
              clear hmt hmq
              have hg1 := HG2.out.2.1
              have hg2 := HG2.out.2.2
              have hg0 := HG2.out.1
              go_roundg (gk - 1)
              case measure => omega
              case rel =>
                refine ⟨pre ++ [(s, Value.slice A7 i c7)], t ++ ids.map (·.f0), c + 1, ?_, by omega, HMF, ⟨?_, ?_, ?_⟩, HSq, HJq⟩
                · have := HMT2.out
                  rw [HSP.out, List.length_append, List.length_map, HN7.out, hg0]
                  obtain ⟨μ', hμ'⟩ : ∃ μ', Mu (nxt l) (l.map (·.f0)) (pre.map (·.1) ++ [s]) = μ' := ⟨_, rfl⟩
                  rw [hμ'] at this ⊢
                  clear hμ'
                  omega
                · rw [HSP.out]
                  exact HP.out.1.take HTD.out hseen (fun x => by rw [List.mem_append, HNX.out])
                · rw [HSP.out, List.nodup_append]
                  refine ⟨HP.out.2.1, by simp, fun a ha b hb e => ?_⟩
                  rw [List.mem_singleton.1 hb] at e
                  exact HIN.out (e ▸ ha)
                · intro x hx
                  rcases List.mem_append.1 hx with hx | hx
                  · exact HTT.out x hx
                  · obtain ⟨y, hy, rfl⟩ := List.mem_map.1 hx
                    have := wants_named l s y (by rw [HIDS.out]; exact hy)
                    show y.f0.size ≤ _
                    omega
        · have HJxy := As.mk hJxy
          clear hJxy
          gi_wp2
          go_wp2_with (fail)
          refine bodyPost_ret (results_none rfl _ _ _) rfl ?_
          exact ⟨⟨_, rfl⟩, .inr ⟨_, trivial, HJxy.out⟩⟩
end Go.Proofs.YtehmhfbfgniekaaGreatDoor.Wk

namespace Go.Proofs.YtehmhfbfgniekaaGreatDoor.Wk
set_option linter.unusedVariables false
set_option linter.unusedSimpArgs false
open Go Go.RowKit Go.Proofs.YtehmhfbfgniekaaGreatDoorW.PrintWords Go.Proofs.YtehmhfbfgniekaaGreatDoorW.PrintLast Go.Proofs.YtehmhfbfgniekaaGreatDoorW.PrintMore Ob PObBase PObDoc PWkB Mp Rw
theorem met_walk (b : Option Nat) (A : Option Addr) (n c : Nat) (w : World) : Calls Tryz.prog 31 #[.map b, .slice A n c] w fun e w' => e = .returned (.func (.func 45) #[] #[.pointer (some ⟨w.heap.size + 1, 0, none⟩), .pointer (some ⟨w.heap.size, 0, none⟩)]) ∧ w' = (w.alloc (.cells #[.map b] 60)).alloc (.cells #[.slice A n c] 23) := by
  go_enter Tryz.func31, Tryz.ntmps31
  go_wp2_with (fail)
  go_ret
  exact ⟨rfl, rfl⟩
structure Cl (bt bl m8 b kk base : Nat) (l : List Hd) (w0 : World) (a c : List ByteArray) (W : World) : Prop where
  ex : ∃ va vb, W.heap[bt]? = some (.cells #[va] 23 (0, 0)) ∧ W.heap[bl]? = some (.cells #[vb] 23 (0, 0)) ∧ Kd.R Kd.string 9 W base (fun k => some k ≠ vb.ownBlock) va a ∧ Kd.R Kd.string 9 W base (fun k => some k ≠ va.ownBlock) vb c
  box : W.heap[m8]? = some (.cells #[.map (some b)] 60 (0, 0))
  mp : MapOf Tryz.prog 9 W b kk (bym l)
  low : Below w0.heap.size w0 W
  lt : bt < base ∧ bl < base ∧ m8 < base ∧ b < base ∧ w0.heap.size ≤ bt ∧ w0.heap.size ≤ bl ∧ bt ≠ bl ∧ base ≤ W.heap.size ∧ m8 ≠ bt ∧ m8 ≠ bl ∧ b ≠ bt ∧ b ≠ bl
variable {bt bl m8 b kk base : Nat} {l : List Hd} {w0 : World} {a c : List ByteArray} {W W' : World}
theorem cell_box {v : Value} {T : TypeId} {j : Nat} (h : W.heap[j]? = some (.cells #[v] T (0, 0))) : W.cell? ⟨j, 0, none⟩ = some v := (blk_cell h 0).trans rfl
theorem own_two {va vb : Value} {T : TypeId} (h1 : W.heap[bt]? = some (.cells #[va] T (0, 0))) (h2 : W.heap[bl]? = some (.cells #[vb] T (0, 0))) (k : Nat) : own [bt, bl] W k ↔ k = bt ∨ k = bl ∨ va.ownBlock = some k ∨ vb.ownBlock = some k := by
  unfold own
  constructor
  · rintro (h | ⟨j, hj, v, hv, e⟩)
    · rcases List.mem_cons.1 h with h | h
      · exact .inl h
      · exact .inr (.inl (List.mem_singleton.1 h))
    · rcases List.mem_cons.1 hj with rfl | hj
      · rw [cell_box h1] at hv; cases hv; exact .inr (.inr (.inl e))
      · obtain rfl := List.mem_singleton.1 hj
        rw [cell_box h2] at hv; cases hv; exact .inr (.inr (.inr e))
  · rintro (rfl | rfl | h | h)
    · exact .inl (by simp)
    · exact .inl (by simp)
    · exact .inr ⟨bt, by simp, va, cell_box h1, h⟩
    · exact .inr ⟨bl, by simp, vb, cell_box h2, h⟩
theorem Cl.keep (h : Cl bt bl m8 b kk base l w0 a c W) (hs : W.heap.size ≤ W'.heap.size) (hos : W'.os = W.os) (ht : W'.tape = W.tape) (ho : W'.output = W.output) (hb : ∀ k o, W.heap[k]? = some o → (k < base ∨ own [bt, bl] W k) → (k < w0.heap.size ∨ o.isCells = true ∨ ∃ es cl, o = .map es cl) → W'.heap[k]? = some o) : Cl bt bl m8 b kk base l w0 a c W' := by
  obtain ⟨va, vb, h1, h2, h3, h4⟩ := h.ex
  have hlt := h.lt
  have hw := own_two h1 h2
  have e1 := hb bt _ h1 (.inl hlt.1) (.inr (.inl rfl))
  have e2 := hb bl _ h2 (.inl hlt.2.1) (.inr (.inl rfl))
  have mv : ∀ {v : Value} {xs : List ByteArray} {ok : Nat → Prop}, Kd.R Kd.string 9 W base ok v xs → (∀ k, v.ownBlock = some k → own [bt, bl] W k) → Kd.R Kd.string 9 W' base ok v xs := by
    intro v xs ok hr hv
    refine Kd.R_of_own ?_ hr.1
    have ho := Kd.own_of_R hr
    refine ⟨ho.1, ?_⟩
    rcases ho.2 with hn | ⟨g, cap, cur, rfl, hg, hc, r⟩
    · exact .inl hn
    · exact .inr ⟨g, cap, cur, rfl, hg, hb g _ hc (.inr (hv g rfl)) (.inr (.inl rfl)), r⟩
  obtain ⟨D, ⟨es, cl, hD, hr⟩, hr2⟩ := h.mp
  refine ⟨⟨va, vb, e1, e2, mv h3 (fun k e => (hw k).2 (.inr (.inr (.inl e)))), mv h4 (fun k e => (hw k).2 (.inr (.inr (.inr e))))⟩, hb m8 _ h.box (.inl hlt.2.2.1) (.inr (.inl rfl)), ⟨D, ⟨es, cl, hb b _ hD (.inl hlt.2.2.2.1) (.inr (.inr ⟨es, cl, rfl⟩)), hr⟩, hr2⟩, ?_, ⟨hlt.1, hlt.2.1, hlt.2.2.1, hlt.2.2.2.1, hlt.2.2.2.2.1, hlt.2.2.2.2.2.1, hlt.2.2.2.2.2.2.1, by omega, hlt.2.2.2.2.2.2.2.2⟩⟩
  refine ⟨hos.trans h.low.os, ht.trans h.low.tape, ho.trans h.low.output, Nat.le_trans h.low.size hs, fun k hk => ?_⟩
  have hkl : k < W.heap.size := Nat.lt_of_lt_of_le hk h.low.size
  have e : W.heap[k]? = some W.heap[k] := Array.getElem?_eq_getElem hkl
  rw [← h.low.block k hk, e]
  exact hb k _ e (.inl (by omega)) (.inl hk)
theorem Cl.ownFrom : OwnFrom base (fun (_ : Unit) W => Cl bt bl m8 b kk base l w0 a c W) := by
  intro s W W' row h hg hr
  have hlt := h.lt
  obtain ⟨va, vb, h1, h2, h3, h4⟩ := h.ex
  refine h.keep hg.size hg.os hg.tape hg.output (fun k o hk hb hc => (hg.block k (blk_lt hk) (fun e => ?_)).trans hk)
  obtain ⟨hB, o', ho', hnc⟩ := hr k e.symm
  rw [hk] at ho'
  cases ho'
  rcases hc with hc | hc | ⟨es, cl, rfl⟩
  · omega
  · rw [hc] at hnc; cases hnc
  · rcases hb with hb | hb
    · omega
    · rcases (own_two h1 h2 k).1 hb with rfl | rfl | e | e
      · rw [h1] at hk; cases hk
      · rw [h2] at hk; cases hk
      · obtain ⟨_, hk2⟩ := Kd.R_typed h3 k e
        rw [hk2] at hk; cases hk
      · obtain ⟨_, hk2⟩ := Kd.R_typed h4 k e
        rw [hk2] at hk; cases hk
theorem Cl.chg {m : Nat} (h : Cl bt bl m8 b kk base l w0 a c W) (hm : base ≤ m) (hc : Chg [bt, bl] m W W') : Cl bt bl m8 b kk base l w0 a c W' :=
  h.keep hc.size hc.os hc.tape hc.output (fun k o hk hb _ => (hc.block k (blk_lt hk) (hb.imp (fun q => by omega) id)).trans hk)
theorem Cl.below (h : Cl bt bl m8 b kk base l w0 a c W) (hb : Below W.heap.size W W') : Cl bt bl m8 b kk base l w0 a c W' :=
  h.keep hb.size hb.os hb.tape hb.output (fun k o hk _ _ => (hb.block k (blk_lt hk)).trans hk)
theorem Cl.qb {mb : Nat} (h : Cl bt bl m8 b kk base l w0 a c W) (hm : mb < base) (h1 : mb ≠ bt) (h2 : mb ≠ bl) : Qb [bt, bl] w0.heap.size mb b W := by
  intro k hk
  obtain ⟨va, vb, e1, e2, h3, h4⟩ := h.ex
  have hlt := h.lt
  have hs := h.low.size
  rcases (own_two e1 e2 k).1 hk with rfl | rfl | e | e
  · exact ⟨hlt.2.2.2.2.1, fun q => h1 q.symm, fun q => by omega, blk_lt e1⟩
  · exact ⟨hlt.2.2.2.2.2.1, fun q => h2 q.symm, fun q => by omega, blk_lt e2⟩
  · have := Kd.R_base h3 k e
    have := Kd.R_lt h3 k e
    exact ⟨by omega, by omega, by omega, by omega⟩
  · have := Kd.R_base h4 k e
    have := Kd.R_lt h4 k e
    exact ⟨by omega, by omega, by omega, by omega⟩
end Go.Proofs.YtehmhfbfgniekaaGreatDoor.Wk

namespace Go.Proofs.YtehmhfbfgniekaaGreatDoor.Wk
set_option linter.unusedVariables false
set_option linter.unusedSimpArgs false
open Go Go.RowKit Go.Proofs.YtehmhfbfgniekaaGreatDoorW.PrintWords Go.Proofs.YtehmhfbfgniekaaGreatDoorW.PrintLast Go.Proofs.YtehmhfbfgniekaaGreatDoorW.PrintMore Ob PObBase PObDoc PWkB Mp Rw
attribute [local go_sem] Oper.semAt_some
variable {bt bl m8 b kk base : Nat} {l : List Hd} {w0 : World} {a c : List ByteArray} {W W' : World}
theorem own_swap {x y : Nat} {W : World} {k : Nat} : own [x, y] W k ↔ own [y, x] W k := by
  unfold own
  simp only [List.mem_cons, List.not_mem_nil, or_false]
  exact ⟨fun h => h.imp (fun h => h.symm) (fun ⟨j, hj, r⟩ => ⟨j, hj.symm, r⟩), fun h => h.imp (fun h => h.symm) (fun ⟨j, hj, r⟩ => ⟨j, hj.symm, r⟩)⟩
theorem kpo_swap {x y m : Nat} (h : Kpo [x, y] m W W') : Kpo [y, x] m W W' :=
  ⟨h.os, h.tape, h.output, h.size, fun k o hk hl hn => h.block k o hk hl (fun q => hn (own_swap.1 q)), fun k hk q => own_swap.1 (h.own k hk (own_swap.1 q))⟩
theorem Cl.swap (h : Cl bt bl m8 b kk base l w0 a c W) : Cl bl bt m8 b kk base l w0 c a W := by
  obtain ⟨va, vb, h1, h2, h3, h4⟩ := h.ex
  have := h.lt
  exact ⟨⟨vb, va, h2, h1, h4, h3⟩, h.box, h.mp, h.low, by omega⟩
theorem Cl.add {va vb v9 : Value} {s : ByteArray} {w9 : World} {m : Nat} (h : Cl bt bl m8 b kk base l w0 a c W) (h1 : W.heap[bt]? = some (.cells #[va] 23 (0, 0))) (h2 : W.heap[bl]? = some (.cells #[vb] 23 (0, 0))) (h3 : Kd.R Kd.string 9 W base (fun k => some k ≠ vb.ownBlock) va a) (h4 : Kd.R Kd.string 9 W base (fun k => some k ≠ va.ownBlock) vb c)
    (ho : Kd.R Kd.string 9 w9 base (fun k => some k ≠ vb.ownBlock) v9 (a ++ [s])) (hg : W.grownBy w9 va.ownBlock) (hat : v9.ownBlock = va.ownBlock ∨ ∃ j, v9.ownBlock = some j ∧ W.heap.size ≤ j) :
    Cl bt bl m8 b kk base l w0 (a ++ [s]) c (w9.setCell ⟨bt, 0, none⟩ v9) ∧ Kpo [bt, bl] m W (w9.setCell ⟨bt, 0, none⟩ v9) ∧ KeepsFrom m W (w9.setCell ⟨bt, 0, none⟩ v9) := by
  have hlt := h.lt
  have hva : ∀ k, va.ownBlock = some k → base ≤ k := Kd.R_base h3
  have hvl : ∀ k, vb.ownBlock = some k → k < W.heap.size := Kd.R_lt h4
  have hsz : (w9.setCell ⟨bt, 0, none⟩ v9).heap.size = w9.heap.size := by simp [World.setCell]
  have hold : ∀ k, k < W.heap.size → k ≠ bt → va.ownBlock ≠ some k → (w9.setCell ⟨bt, 0, none⟩ v9).heap[k]? = W.heap[k]? := fun k hk hn hv => (set_other hn _ _).trans (hg.block k hk (fun e => hv e.symm))
  have e1 : (w9.setCell ⟨bt, 0, none⟩ v9).heap[bt]? = some (.cells #[v9] 23 (0, 0)) := set_one ((hg.block bt (blk_lt h1) (fun e => by have := hva bt e.symm; omega)).trans h1)
  have e2 : (w9.setCell ⟨bt, 0, none⟩ v9).heap[bl]? = some (.cells #[vb] 23 (0, 0)) := (hold bl (blk_lt h2) (fun e => hlt.2.2.2.2.2.2.1 e.symm) (fun e => by have := hva bl e; omega)).trans h2
  have hv9 : ∀ k, k < W.heap.size → v9.ownBlock = some k → va.ownBlock = some k := fun k hk e => by
    rcases hat with hat | ⟨j, hj, hle⟩
    · rw [← hat]; exact e
    · rw [hj] at e; cases e; omega
  have hgs := hg.size
  have r3 : Kd.R Kd.string 9 (w9.setCell ⟨bt, 0, none⟩ v9) base (fun k => some k ≠ vb.ownBlock) v9 (a ++ [s]) :=
    Kd.R_mono (Kd.R_move (Kd.R_bound ho) (fun k hk => set_other (by have := hk.2.1; omega) _ _)) (fun _ hk => hk.1)
  have r4 : Kd.R Kd.string 9 (w9.setCell ⟨bt, 0, none⟩ v9) base (fun k => some k ≠ v9.ownBlock) vb c :=
    Kd.R_mono (Kd.R_move (Kd.R_bound h4) (fun k hk => hold k hk.2.2.1 (by have := hk.2.1; omega) (fun e => hk.1 e.symm))) (fun k hk e => hk.1 (hv9 k hk.2.2.1 e.symm).symm)
  obtain ⟨D, ⟨es, cl, hD, hr⟩, hr2⟩ := h.mp
  have hnv : ∀ k, k < base → va.ownBlock ≠ some k := fun k hk e => by have := hva k e; omega
  refine ⟨⟨⟨v9, vb, e1, e2, r3, r4⟩, (hold m8 (blk_lt h.box) hlt.2.2.2.2.2.2.2.2.1 (hnv m8 hlt.2.2.1)).trans h.box, ⟨D, ⟨es, cl, (hold b (blk_lt hD) hlt.2.2.2.2.2.2.2.2.2.2.1 (hnv b hlt.2.2.2.1)).trans hD, hr⟩, hr2⟩, ?_, by omega⟩, ?_, ?_⟩
  · refine ⟨hg.os.trans h.low.os, hg.tape.trans h.low.tape, hg.output.trans h.low.output, by have := h.low.size; omega, fun k hk => ?_⟩
    have := h.low.size
    exact (hold k (by omega) (by omega) (hnv k (by omega))).trans (h.low.block k hk)
  · have hw := own_two h1 h2
    refine ⟨hg.os, hg.tape, hg.output, by omega, fun k o hk _ hn => ?_, fun k hk ho => ?_⟩
    · exact (hold k (blk_lt hk) (fun e => hn ((hw k).2 (.inl e))) (fun e => hn ((hw k).2 (.inr (.inr (.inl e)))))).trans hk
    · rcases (own_two e1 e2 k).1 ho with e | e | e | e
      · exact (hw k).2 (.inl e)
      · exact (hw k).2 (.inr (.inl e))
      · exact (hw k).2 (.inr (.inr (.inl (hv9 k hk e))))
      · exact (hw k).2 (.inr (.inr (.inr e)))
  · refine ⟨by omega, fun k o _ hk hc => (hold k (blk_lt hk) (fun e => ?_) (fun e => ?_)).trans hk⟩
    · subst e; rw [h1] at hk; cases hk; cases hc
    · obtain ⟨cs, hcs⟩ := Kd.R_typed h3 k e
      rw [hcs] at hk; cases hk; cases hc
def isT (l : List Hd) (xs : List Yl) : List ByteArray := (xs.map (·.1)).filter (fun s => (fnd l s).isSome)
def isL (l : List Hd) (xs : List Yl) : List ByteArray := (xs.map (·.1)).filter (fun s => !(fnd l s).isSome)
theorem isT_snoc (l : List Hd) (xs : List Yl) (x : Yl) : isT l (xs ++ [x]) = isT l xs ++ (if (fnd l x.1).isSome then [x.1] else []) := by
  unfold isT
  rw [List.map_append, List.filter_append]
  show _ ++ List.filter _ [x.1] = _
  rw [List.filter_cons, List.filter_nil]
theorem isL_snoc (l : List Hd) (xs : List Yl) (x : Yl) : isL l (xs ++ [x]) = isL l xs ++ (if (fnd l x.1).isSome then [] else [x.1]) := by
  unfold isL
  rw [List.map_append, List.filter_append]
  show _ ++ List.filter _ [x.1] = _
  rw [List.filter_cons, List.filter_nil]
  cases (fnd l x.1).isSome <;> rfl
theorem told_there {l : List Hd} {tips : List ByteArray} {xs : List Yl} (h : Told (nxt l) tips (xs.map (·.1))) : sortL (isT l xs) = thereL l tips :=
  (rises_sort (p := IsT l tips) (isT l xs) (h.once.filter _) (fun s => by unfold isT IsT; rw [List.mem_filter, h.all])).eq (rises_there l tips) (fun _ => Iff.rfl)
theorem told_lack {l : List Hd} {tips : List ByteArray} {xs : List Yl} (h : Told (nxt l) tips (xs.map (·.1))) : sortL (isL l xs) = lackL l tips :=
  (rises_sort (p := IsL l tips) (isL l xs) (h.once.filter _) (fun s => by unfold isL IsL; rw [List.mem_filter, h.all]; simp)).eq (rises_lack l tips) (fun _ => Iff.rfl)
theorem pr_putObj {tips : List ByteArray} {m : Nat} (pre : List Yl) (x : Yl) (W : World) (j : Nat) (o' : Obj) (h : ∃ r, W.heap[j]? = some (.loop r)) (hp : Pr l tips m pre x W) : Pr l tips m pre x (W.putObj j o') := by
  obtain ⟨h1, h2, h3, h4⟩ := hp
  refine ⟨h1, h2, Kd.R_mono (Kd.R_move (Kd.R_bound h3) (fun k hk => World.putObj_heap_other (fun e => ?_))) (fun _ _ => trivial), h4⟩
  obtain ⟨_, _, _, q, _, cs, hcs⟩ := hk
  obtain ⟨r, hr⟩ := h
  rw [e, hr] at hcs
  cases hcs
end Go.Proofs.YtehmhfbfgniekaaGreatDoor.Wk
