/- Joined texts: WkIn, WkClo2, WkSou, WkSou2, WkGiven2, WkHeadP, WkEv, WkHead1, WkHead, WkGiven3, PWalkLessx0, PWalkLessx1, WkLaw. No condition but what stands in each. -/
import Derived.Test.YtehmhfbfgniekaaGreatDoorZWalkLessJ21
import Derived.Maps.OwnIn
import Derived.Test.YtehmhfbfgniekaaGreatDoorZWalkLessJ19
import Derived.Test.YtehmhfbfgniekaaGreatDoorZWalkLessJ14
import Derived.Test.YtehmhfbfgniekaaGreatDoorZWalkLessJ3
import Derived.Test.YtehmhfbfgniekaaGreatDoorProg
import Derived.Below
import Derived.Deep.Draws
import Derived.Deep.AppendLies
import Derived.Maps.AppendAt
import Derived.OwnWalk
import Derived.Laws.BytesArg
import Derived.Laws.MakeOwn
import Derived.Laws.OwnMore
import Derived.Deep.OwnRows
import Derived.Tactics
import Derived.Lib.ConvBytes
import Derived.Laws.Slices
import Derived.WalkKit
import Derived.KernelRfl
import Derived.RowKit3
import Derived.Deep.LoopGhost
import Derived.Deep.QuietTactic
import Derived.BigQuiet
import Derived.WideLaws
import Derived.Deep.DeepCutAuto
import Derived.Deep.CutBlock
import Derived.Deep.RegionHeld3
import Derived.Laws.Rows
import Derived.Lib.AppendStr
import Derived.ArgAppend
import Derived.Laws.IdiomCopy
import Derived.OrdersHeld
import Derived.Laws.BitsLemmas
import Derived.RowKit
import Derived.Test.YtehmhfbfgniekaaGreatDoorZWalkLessJ0
import Derived.Test.YtehmhfbfgniekaaGreatDoorZWalkLessJ1
import Derived.Test.YtehmhfbfgniekaaGreatDoorZWalkLessJ2
namespace Go.Proofs.YtehmhfbfgniekaaGreatDoor.Wk
set_option linter.unusedVariables false
set_option linter.unusedSimpArgs false
open Go Go.RowKit Go.Proofs.YtehmhfbfgniekaaGreatDoorW.PrintWords Go.Proofs.YtehmhfbfgniekaaGreatDoorW.PrintLast Go.Proofs.YtehmhfbfgniekaaGreatDoorW.PrintMore
theorem R_append_in {F : Fence} {nF : Nat} {P : Program} {ops : Array Oper} {rest : List Oper} {o : Oper} {a : Act} {Q : Exit → Act → World → Prop} {W : World} (base : Nat) (hgd : o.guard = none) (s x : Operand) (t e : TypeId) (z : Value) (bytes : Nat)
    (ho : o.op = .call { callee := .builtin .append, args := #[s, x], argTypes := #[t, t] }) (ht : P.underlying t = some (.slice e)) (hinfo : (P.info? e).map (fun i => (i.zero, i.size, i.bytes)) = some (some z, 1, bytes)) (hz : z.cells.size = 1) (hb0 : 0 < bytes)
    (v : Value) (xs : List ByteArray) (p : ByteArray) (ok : Nat → Prop) (hs : a.eval s = v) (hx : a.eval x = .slice (some ⟨W.heap.size, 0, none⟩) 1 1) (hfresh : ∀ k, W.heap.size ≤ k → ok k) (HO : Kd.R Kd.string e W base ok v xs) (hbase : base ≤ W.heap.size) (hl : (xs.length + 1) * bytes ≤ 140737488355328)
    (h : ∀ v1 w1, Kd.R Kd.string e w1 base ok v1 (xs ++ [p]) → W.grownBy w1 v.ownBlock → (v1.ownBlock = v.ownBlock ∨ ∃ b, v1.ownBlock = some b ∧ W.heap.size ≤ b) → wpListIn F nF P ops Q rest (a.put o.dst v1) w1) :
    wpListIn F nF P ops Q (o :: rest) a (W.alloc (.cells #[.string p] e)) := by
  obtain ⟨i0, hi, hzz⟩ := Option.map_eq_some_iff.1 hinfo
  simp only [Prod.mk.injEq] at hzz
  obtain ⟨hz0, hz1, hz2⟩ := hzz
  have hown := Kd.own_of_R HO
  have hlen : xs.length + 1 ≤ 140737488355328 := Nat.le_trans (Nat.le_mul_of_pos_right _ hb0) hl
  refine wpListIn_append_own_at _ hgd s x t ho base e i0 z 1 bytes ht hi hz0 hz1 hz2 hz (by decide) v xs.length (encs Value.string xs) hs (hown.alloc _) ⟨W.heap.size, 0, none⟩ 1 1 [.string p] hx rfl
    (by simpa using World.news_of_block (cs := #[.string p]) (t := e) (fr := (0, 0)) (heap_alloc_new W (.cells #[.string p] e))) (fun u hu => by rw [List.mem_singleton.1 hu]; rfl) (by simp only [maxLen]; omega) hl (by simp; omega) ?_
  intro v1 w1 hown1 hg _ hat
  have hat2 : v1.ownBlock = v.ownBlock ∨ ∃ b, v1.ownBlock = some b ∧ W.heap.size ≤ b := by
    rcases hat with hat | hat
    · exact .inl hat
    · exact .inr ⟨_, hat, by simp⟩
  refine h v1 w1 ?_ (World.grownBy.trans (World.grownBy_alloc W _ _) hg) hat2
  have e1 : encs Value.string xs ++ [Value.string p] = encs Value.string (xs ++ [p]) := by simp [encs]
  rw [e1] at hown1
  refine Kd.R_of_own (by rw [List.length_append]; exact hown1) (fun k hk => ?_)
  rcases hat2 with h2 | ⟨j, hj, hle⟩
  · exact HO.1 k (h2 ▸ hk)
  · rw [hj] at hk; cases hk; exact hfresh _ hle
end Go.Proofs.YtehmhfbfgniekaaGreatDoor.Wk

namespace Go.Proofs.YtehmhfbfgniekaaGreatDoor.Wk
set_option linter.unusedVariables false
set_option linter.unusedSimpArgs false
open Go Go.RowKit Go.Proofs.YtehmhfbfgniekaaGreatDoorW.PrintWords Go.Proofs.YtehmhfbfgniekaaGreatDoorW.PrintLast Go.Proofs.YtehmhfbfgniekaaGreatDoorW.PrintMore Ob PObBase PObDoc PWkB Mp Rw
attribute [local go_sem] Oper.semAt_some
set_option maxHeartbeats 16000000 in
set_option maxRecDepth 100000 in
theorem closure_walk (A : Option Addr) (n c : Nat) (l : List Hd) (B : Option Addr) (m d : Nat) (tips : List ByteArray) (w : World) (hC : Kd.C k49 w A n l) (hn : l.length = n) (hc : n ≤ c) (hD : Kd.C Kd.string w B m tips) (hm : tips.length = m) (hd : m ≤ d)
    (hl : Hsh l) (hts : Tsh tips) (hn1 : tips.length ≤ 1000000) (hn2 : l.length ≤ 100000) (ht : Tbl w) :
    Calls Tryz.prog 13 #[.slice A n c, .slice B m d] w fun e w' => ∃ v0 v1, e = .returned (.tuple #[v0, v1]) ∧ Kd.R Kd.string 9 w' w.heap.size (fun k => some k ≠ v1.ownBlock) v0 (thereL l tips) ∧ Kd.R Kd.string 9 w' w.heap.size (fun k => some k ≠ v0.ownBlock) v1 (lackL l tips) ∧ Below w.heap.size w w' := by
  subst hn hm
  have HC := As.mk hC
  have HD := As.mk hD
  have HL := As.mk hl
  have HTS := As.mk hts
  have HT := As.mk ht
  have hmax1 := Kd.C_max hC
  have hmax2 := Kd.C_max hD
  clear hC hD hl hts ht
  refine callsIn_wide.1 (callsIn_of_wp_marks (F := Fence.wide) (n := 5) Tryz.func13 rfl trivial ?_ rfl)
  refine wpIn_wide.2 ?_
  simp only [Tryz.ntmps13, List.size_toArray, List.length_cons, List.length_nil, Nat.reduceAdd, Nat.reduceSub, Array.replicate_succ, Array.replicate_zero, List.push_toArray, List.append_toArray, List.nil_append, List.cons_append]
  obtain ⟨W, hW⟩ : ∃ W, (w.alloc (.cells #[.slice none 0 0] 23)).alloc (.cells #[.slice none 0 0] 23) = W := ⟨_, rfl⟩
  have hWs : W.heap.size = w.heap.size + 1 + 1 := by rw [← hW]; simp
  have HBW : As (Below w.heap.size w W) := ⟨by rw [← hW]; exact ((Below.refl _ _).alloc (Nat.le_refl _) _).alloc (by simp) _⟩
  have HK1 : As (W.heap[w.heap.size]? = some (.cells #[.slice none 0 0] 23 (0, 0))) := ⟨by rw [← hW]; exact alloc_at (blk_new w _) _⟩
  have HK2 : As (W.heap[w.heap.size + 1]? = some (.cells #[.slice none 0 0] 23 (0, 0))) := ⟨by
    rw [← hW]
    have := blk_new (w.alloc (.cells #[.slice none 0 0] 23)) (.cells #[.slice none 0 0] 23)
    rwa [World.size_alloc] at this⟩
  have hBY := by_one W (Kd.C_below HC.out HBW.out) hc HL.out (by omega)
  rw [hWs] at hBY
  have HBY := As.mk hBY
  clear hBY
  go_wp2_with (fail)
  refine HBY.out.mono ?_
  rintro e w1 ⟨rfl, ⟨k, hk, hM⟩, hb, hlt⟩
  have hb1 : Below w.heap.size w w1 := HBW.out.trans (hb.mono (by omega))
  have e1 : w1.heap[w.heap.size]? = some (.cells #[.slice none 0 0] 23 (0, 0)) := (hb.block _ (by omega)).trans HK1.out
  have e2 : w1.heap[w.heap.size + 1]? = some (.cells #[.slice none 0 0] 23 (0, 0)) := (hb.block _ (by omega)).trans HK2.out
  obtain ⟨b, hbb⟩ : ∃ b, w.heap.size + 1 + 1 + 1 = b := ⟨_, rfl⟩
  rw [hbb] at hM hlt
  rw [hbb]
  obtain ⟨W2, hW2⟩ : ∃ W2, w1.alloc (.cells #[.map (some b)] 60) = W2 := ⟨_, rfl⟩
  have hW2s : W2.heap.size = w1.heap.size + 1 := by rw [← hW2, World.size_alloc]
  have hb2 : Below w1.heap.size w1 W2 := by rw [← hW2]; exact below_new _ _
  have e3 : W2.heap[w1.heap.size]? = some (.cells #[.map (some b)] 60 (0, 0)) := by rw [← hW2]; exact blk_new w1 _
  have hd8 : W2.cell? ⟨w1.heap.size, 0, none⟩ = some (.map (some b)) := cell_box e3
  obtain ⟨m8, hm8⟩ : ∃ m8, w1.heap.size = m8 := ⟨_, rfl⟩
  obtain ⟨wl, hwl⟩ : ∃ wl, (W2.alloc (.cells #[.map (some b)] 60)).alloc (.cells #[.slice B tips.length d] 23) = wl := ⟨_, rfl⟩
  have hwls : wl.heap.size = W2.heap.size + 2 := by rw [← hwl]; simp
  have hb3 : Below W2.heap.size W2 wl := by rw [← hwl]; exact (below_new _ _).alloc (by simp) _
  have hTb : wl.heap[W2.heap.size + 1]? = some (.cells #[.slice B tips.length d] 23 (0, 0)) := by
    rw [← hwl]
    have := blk_new (W2.alloc (.cells #[.map (some b)] 60)) (.cells #[.slice B tips.length d] 23)
    rwa [World.size_alloc] at this
  have hMb : wl.heap[W2.heap.size]? = some (.cells #[.map (some b)] 60 (0, 0)) := by rw [← hwl]; exact alloc_at (blk_new W2 _) _
  have hb13 : Below w1.heap.size w1 wl := hb2.trans (hb3.mono hb2.size)
  have hbl : Below w.heap.size w wl := hb1.trans (hb13.mono hb1.size)
  have hMl := hM.below hb13
  have HIt := As.mk (met_iter 4 [w.heap.size, w.heap.size + 1] w.heap.size (W2.heap.size + 1) W2.heap.size b k l tips B d w wl hTb hMb hMl (Kd.C_below HD.out hbl) hd HT.out rfl hbl HL.out HTS.out hn1 hn2)
  have HI0 : As (Cl w.heap.size (w.heap.size + 1) m8 b k wl.heap.size l w (isT l []) (isL l []) wl) := ⟨{
    ex := ⟨_, _, (hb13.block _ (blk_lt e1)).trans e1, (hb13.block _ (blk_lt e2)).trans e2, Kd.R_nil _ _ _ _ _, Kd.R_nil _ _ _ _ _⟩
    box := by rw [← hm8]; exact (hb3.block _ (blk_lt e3)).trans e3
    mp := hMl
    low := hbl
    lt := by omega }⟩
  have HL8 : As (m8 < wl.heap.size ∧ W2.heap.size < wl.heap.size ∧ W2.heap.size ≠ w.heap.size ∧ W2.heap.size ≠ w.heap.size + 1 ∧ w.heap.size + 1 < wl.heap.size) := ⟨by omega⟩
  rw [hm8] at hd8 hW2s
  have HMT := As.mk (met_walk (some b) B tips.length d W2)
  rw [hwl] at HMT
  obtain ⟨mb, hmb⟩ : ∃ mb, W2.heap.size = mb := ⟨_, rfl⟩
  rw [hmb] at HIt HL8 HMT
  clear hb1 e1 e2 hb2 e3 hb3 hTb hMb hb13 hbl hMl hM hb hlt HBY HK1 HK2 hwls
  go_wp2_with (fail)
  refine HMT.out.mono ?_
  rintro e wl ⟨rfl, rfl⟩
  clear hW hW2 hwl hmb hm8 hbb hd8
  go_wp2_with (fail)
  refine (wpIn_wide (n := 5)).1 ?_
  refine range_own (F := Fence.wide) (n := 5) rfl (by decide) (gf := 45) (lb := #[.pointer (some ⟨mb + 1, 0, none⟩), .pointer (some ⟨mb, 0, none⟩)]) rfl trivial (enters_of Tryz.func45 (by kernel_rfl) rfl)
    (encs := encY) (Kp := Kpo [w.heap.size, w.heap.size + 1] wl.heap.size) (Pr := Pr l tips wl.heap.size) (Ch := fun m => Chg [w.heap.size, w.heap.size + 1] m) (Qq := Qb [w.heap.size, w.heap.size + 1] w.heap.size mb b) (S := fun xs => Told (nxt l) tips (xs.map (·.1))) (Sp := fun _ => True) HIt.out (fun pre x W j o' h hp => pr_putObj pre x W j o' h hp) (fun m A B hc k hk hm => hc.block k hk (.inl hm)) (fun h k => h.trans k) (fun W j o o' hj ho hr => Kpo.putObj W j o o' hj ho hr (fun q hq => by have := HL8.out; rcases List.mem_cons.1 hq with rfl | hq; omega; rw [List.mem_singleton.1 hq]; omega)) (fun _ => rfl)
    (fun pre W => Cl w.heap.size (w.heap.size + 1) m8 b k wl.heap.size l w (isT l pre) (isL l pre) W) (fun _ _ _ => False) (fun s W W' row hs hg hr => Cl.ownFrom () W W' row hs hg hr) (fun m s A B hm hs hc => hs.chg hm hc) (fun s A hs => hs.qb HL8.out.2.1 HL8.out.2.2.1 HL8.out.2.2.2.1) (fun c s W W' row hs _ _ => hs.elim) HI0.out
    ?a1 ?assign ?body ?done ?stop
  case a1 => exact fun x => { tmps := #[.slice A l.length c, .slice B tips.length d, undef, undef, .slice none 0 0, .slice none 0 0, .pointer (some ⟨w.heap.size, 0, none⟩), .pointer (some ⟨w.heap.size + 1, 0, none⟩), .pointer (some ⟨m8, 0, none⟩), .string x.1, undef, undef, .slice A l.length c, .slice (some ⟨w.heap.size + 1 + 1, 0, none⟩) 1 1, .map (some b), .map (some b), .slice B tips.length d, .func (.func 45) #[] #[.pointer (some ⟨mb + 1, 0, none⟩), .pointer (some ⟨mb, 0, none⟩)], .string x.1, x.2, undef, undef, undef, undef, undef, undef, undef, undef, undef, undef, undef, undef, undef, undef, undef, undef, undef, undef, undef, undef, undef], defers := [] }
  case assign =>
    intro j x W K hK
    unfold encY
    gi_wp2
    exact hK
  case body =>
    rintro j pre x W hj hI hPr
    have hxs : x.1.size ≤ maxLen := by
      obtain ⟨_, hr, _⟩ := hPr
      exact Nat.le_trans (Reach.sub (q := fun s => s.size ≤ 1000000000) HTS.out (fun s u _ hu => by
        obtain ⟨y, hy, rfl⟩ := List.mem_map.1 hu
        have := wants_named l s y hy
        omega) hr) (by decide)
    have hpl := hPr.2.2.2
    have hbx := cell_box hI.box
    obtain ⟨xs, xv⟩ := x
    have HI := As.mk hI
    have hmp := hI.mp
    clear hPr hI
    cases hf : fnd l xs with
    | some o =>
      obtain ⟨W1, hW1⟩ : ∃ W1, W.alloc (.cells #[.int .i64 o.f0, .string o.f1] 30) = W1 := ⟨_, rfl⟩
      have hb1 : Below W.heap.size W W1 := by rw [← hW1]; exact below_new _ _
      have HB1 := As.mk hb1
      have HI1 := As.mk (HI.out.below hb1)
      obtain ⟨va, vb, h1, h2, h3, h4⟩ := HI1.out.ex
      have H1 := As.mk h1
      have H2 := As.mk h2
      have H3 := As.mk h3
      have H4 := As.mk h4
      have hlk := hmp.run_look_ok (t := 60) (e := 30) Tryz.underlying9 Tryz.underlying60 (z := .agg #[.int .i64 0, .string ⟨#[]⟩]) rfl hxs (val := .agg #[.int .i64 o.f0, .string o.f1]) (by unfold bym; rw [hf]; rfl) (is := true) (by unfold bym; rw [hf]; rfl)
      have hva := cell_box h1
      have hfr : ∀ k, W1.heap.size ≤ k → some k ≠ vb.ownBlock := fun k hk e => by have := Kd.R_lt H4.out k e.symm; omega
      have hl2 : ((isT l pre).length + 1) * 16 ≤ 140737488355328 := by
        have : (isT l pre).length ≤ (pre.map (·.1)).length := List.length_filter_le _ _
        omega
      have hbs := HI1.out.lt.2.2.2.2.2.2.2.1
      have HEQ : As (isT l (pre ++ [(xs, xv)]) = isT l pre ++ [xs] ∧ isL l (pre ++ [(xs, xv)]) = isL l pre) := ⟨by rw [isT_snoc, isL_snoc, show (fnd l xs).isSome = true by rw [hf]; rfl]; simp⟩
      clear hb1 h1 h2 h3 h4 hf hmp hpl
      gi_wp2_with (first
        | (gi_at_builtin; refine R_append_in wl.heap.size rfl (.tmp 27) (.tmp 29) 23 9 (.string ⟨#[]⟩) 16 rfl Tryz.underlying23 info_str rfl (by decide) va (isT l pre) xs (fun k => some k ≠ vb.ownBlock) rfl rfl hfr H3.out hbs hl2 ?_; intro v9 w9 ho hg hat; obtain ⟨A9, c9, hv9, _, _⟩ := Kd.R_reads ho; subst hv9; have e9 := (hg.block w.heap.size (blk_lt H1.out) (fun e => by have := Kd.R_base H3.out w.heap.size e.symm; have := HI1.out.lt; omega)).trans H1.out; have hc9 := cell_box e9; have hf9 : w9.frozen? ⟨w.heap.size, 0, none⟩ = false := fz_at e9 0)
        | fail)
      have HA := HI1.out.add (m := wl.heap.size) H1.out H2.out H3.out H4.out ho hg hat
      have hlen : (isT l pre ++ [xs]).length = (isT l pre).length + 1 := by simp
      rw [hlen] at HA
      have hbb : ∀ q ∈ [w.heap.size, w.heap.size + 1], q < W.heap.size := fun q hq => by
        have := HL8.out
        have := HI.out.lt
        rcases List.mem_cons.1 hq with rfl | hq
        · omega
        · rw [List.mem_singleton.1 hq]; omega
      refine ⟨KeepsFrom.trans ⟨HB1.out.size, fun k o _ hk _ => (HB1.out.block k (blk_lt hk)).trans hk⟩ HA.2.2, (Kpo.below HB1.out hbb).trans HA.2.1, ?_⟩
      show Cl _ _ _ _ _ _ _ _ (isT l (pre ++ [(xs, xv)])) (isL l (pre ++ [(xs, xv)])) _
      rw [HEQ.out.1, HEQ.out.2]
      exact HA.1
    | none =>
      obtain ⟨W1, hW1⟩ : ∃ W1, W.alloc (.cells #[.int .i64 0, .string ⟨#[]⟩] 30) = W1 := ⟨_, rfl⟩
      have hb1 : Below W.heap.size W W1 := by rw [← hW1]; exact below_new _ _
      have HB1 := As.mk hb1
      have HI1 := As.mk (HI.out.below hb1)
      obtain ⟨va, vb, h1, h2, h3, h4⟩ := HI1.out.ex
      have H1 := As.mk h1
      have H2 := As.mk h2
      have H3 := As.mk h3
      have H4 := As.mk h4
      have hlk := hmp.run_look_ok (t := 60) (e := 30) Tryz.underlying9 Tryz.underlying60 (z := .agg #[.int .i64 0, .string ⟨#[]⟩]) rfl hxs (val := .agg #[.int .i64 0, .string ⟨#[]⟩]) (by unfold bym; rw [hf]; rfl) (is := false) (by unfold bym; rw [hf]; rfl)
      have hvb : ∀ o, (W.alloc o).cell? ⟨w.heap.size + 1, 0, none⟩ = some vb := fun o => by
        have : W.heap[w.heap.size + 1]? = some (.cells #[vb] 23 (0, 0)) := by rw [← HB1.out.block _ (by have := HI.out.lt; omega)]; exact h2
        exact cell_box (alloc_at this o)
      have hs1 : As (W.heap.size + 1 = W1.heap.size) := ⟨by rw [← hW1, World.size_alloc]⟩
      have HW1 := As.mk hW1
      have hfr : ∀ k, W1.heap.size ≤ k → some k ≠ va.ownBlock := fun k hk e => by have := Kd.R_lt H3.out k e.symm; omega
      have hl2 : ((isL l pre).length + 1) * 16 ≤ 140737488355328 := by
        have : (isL l pre).length ≤ (pre.map (·.1)).length := List.length_filter_le _ _
        omega
      have hbs := HI1.out.lt.2.2.2.2.2.2.2.1
      have HEQ : As (isT l (pre ++ [(xs, xv)]) = isT l pre ∧ isL l (pre ++ [(xs, xv)]) = isL l pre ++ [xs]) := ⟨by rw [isT_snoc, isL_snoc, show (fnd l xs).isSome = false by rw [hf]; rfl]; simp⟩
      clear hb1 h1 h2 h3 h4 hf hmp hpl hW1
      gi_wp2_with (first
        | (gi_at_builtin; rw [HW1.out, hs1.out]; refine R_append_in wl.heap.size rfl (.tmp 31) (.tmp 33) 23 9 (.string ⟨#[]⟩) 16 rfl Tryz.underlying23 info_str rfl (by decide) vb (isL l pre) xs (fun k => some k ≠ va.ownBlock) rfl rfl hfr H4.out hbs hl2 ?_; intro v9 w9 ho hg hat; obtain ⟨A9, c9, hv9, _, _⟩ := Kd.R_reads ho; subst hv9; have e9 := (hg.block (w.heap.size + 1) (blk_lt H2.out) (fun e => by have := Kd.R_base H4.out (w.heap.size + 1) e.symm; have := HI1.out.lt; omega)).trans H2.out; have hc9 := cell_box e9; have hf9 : w9.frozen? ⟨w.heap.size + 1, 0, none⟩ = false := fz_at e9 0)
        | fail)
      have HA := HI1.out.swap.add (m := wl.heap.size) H2.out H1.out H4.out H3.out ho hg hat
      have hlen : (isL l pre ++ [xs]).length = (isL l pre).length + 1 := by simp
      rw [hlen] at HA
      have hbb : ∀ q ∈ [w.heap.size, w.heap.size + 1], q < W.heap.size := fun q hq => by
        have := HL8.out
        have := HI.out.lt
        rcases List.mem_cons.1 hq with rfl | hq
        · omega
        · rw [List.mem_singleton.1 hq]; omega
      refine ⟨KeepsFrom.trans ⟨HB1.out.size, fun k o _ hk _ => (HB1.out.block k (blk_lt hk)).trans hk⟩ HA.2.2, (Kpo.below HB1.out hbb).trans (kpo_swap HA.2.1), ?_⟩
      show Cl _ _ _ _ _ _ _ _ (isT l (pre ++ [(xs, xv)])) (isL l (pre ++ [(xs, xv)])) _
      rw [HEQ.out.1, HEQ.out.2]
      exact HA.1.swap
  case done =>
    rintro D xs W hD hS hI hK
    obtain ⟨va, vb, h1, h2, h3, h4⟩ := hI.ex
    have hlt := hI.lt
    have hlen1 : (isT l xs).length ≤ 1000000000 := by
      have := reach_len l tips _ hS.once (fun s hs => (hS.all s).1 hs)
      have : (isT l xs).length ≤ (xs.map (·.1)).length := List.length_filter_le _ _
      omega
    have hlen2 : (isL l xs).length ≤ 1000000000 := by
      have := reach_len l tips _ hS.once (fun s hs => (hS.all s).1 hs)
      have : (isL l xs).length ≤ (xs.map (·.1)).length := List.length_filter_le _ _
      omega
    have hva := cell_box h1
    have HT1 := As.mk (told_there hS)
    have HT2 := As.mk (told_lack hS)
    have H1 := As.mk h1
    have H2 := As.mk h2
    have H4 := As.mk h4
    have H3 := As.mk h3
    have HLOW := As.mk hI.low
    have HK := As.mk hK
    have HLT := As.mk hlt
    clear h1 h2 h3 h4 hK hlt hI hS
    go_wp2_with (fail)
    refine (sort_walk H3.out hlen1).mono ?_
    rintro e W2 ⟨rfl, hR2, hg2⟩
    have e1 := (hg2.block w.heap.size (blk_lt H1.out) (fun e => by have := Kd.R_base H3.out _ e.symm; have := HLT.out; omega)).trans H1.out
    have e2 := (hg2.block (w.heap.size + 1) (blk_lt H2.out) (fun e => by have := Kd.R_base H3.out _ e.symm; have := HLT.out; omega)).trans H2.out
    have h42 := Kd.R_grown H4.out hg2 (fun k hk => hk)
    have k2 := (hg2.block D (blk_lt HK.out) (fun e => by
      obtain ⟨cs, hcs⟩ := Kd.R_typed H3.out D e.symm
      rw [HK.out] at hcs; cases hcs)).trans HK.out
    have hb2 := HLOW.out.grown hg2 HLOW.out.size (fun k e => by have := Kd.R_base H3.out k e; have := HLT.out; omega)
    have hvb := cell_box e2
    rw [HT1.out] at hR2
    have E1 := As.mk e1
    have E2 := As.mk e2
    have HR2 := As.mk hR2
    have H42 := As.mk h42
    have K2 := As.mk k2
    have HB2 := As.mk hb2
    clear e1 e2 h42 k2 hb2 hR2 hg2 hva
    go_wp2_with (fail)
    refine (sort_walk H42.out hlen2).mono ?_
    rintro e W3 ⟨rfl, hR3, hg3⟩
    have e1 := (hg3.block w.heap.size (blk_lt E1.out) (fun e => by have := Kd.R_base H42.out _ e.symm; have := HLT.out; omega)).trans E1.out
    have e2 := (hg3.block (w.heap.size + 1) (blk_lt E2.out) (fun e => by have := Kd.R_base H42.out _ e.symm; have := HLT.out; omega)).trans E2.out
    have h33 := Kd.R_grown HR2.out hg3 (fun k hk => hk)
    have k3 := (hg3.block D (blk_lt K2.out) (fun e => by
      obtain ⟨cs, hcs⟩ := Kd.R_typed H42.out D e.symm
      rw [K2.out] at hcs; cases hcs)).trans K2.out
    have hb3 := HB2.out.grown hg3 HB2.out.size (fun k e => by have := Kd.R_base H42.out k e; have := HLT.out; omega)
    rw [HT2.out] at hR3
    have hva3 : W3.drew.cell? ⟨w.heap.size, 0, none⟩ = some va := cell_box (W := W3.drew) e1
    have hvb3 : W3.drew.cell? ⟨w.heap.size + 1, 0, none⟩ = some vb := cell_box (W := W3.drew) e2
    have HR3 := As.mk hR3
    have H33 := As.mk h33
    have K3 := As.mk k3
    have HB3 := As.mk hb3
    clear e1 e2 h33 k3 hb3 hR3 hg3 hvb
    go_wp2_with (fail)
    go_region
    have hb4 : Below w.heap.size w W3.drew := HB3.out.drew
    have hDw : w.heap.size ≤ D := by have := HLT.out; omega
    have hKd : W3.drew.heap[D]? = some (.deferred (some [])) := K3.out
    have hnD : ∀ {v : Value} {ok : Nat → Prop} {ys : List ByteArray}, Kd.R Kd.string 9 W3 wl.heap.size ok v ys → Kd.R Kd.string 9 (W3.drew.putObj D (.deferred none)) w.heap.size ok v ys := fun h =>
      Kd.R_lower (Kd.R_mono (Kd.R_move (Kd.R_bound h) (fun k hk => World.putObj_heap_other (fun e => by
        obtain ⟨_, _, _, q, _, cs, hcs⟩ := hk
        rw [e, K3.out] at hcs; cases hcs))) (fun _ hk => hk.1)) (by have := HLT.out; omega)
    have hfin : Below w.heap.size w (W3.drew.putObj D (.deferred none)) := hb4.grown (grownBy_putObj' W3.drew D _) hb4.size (fun k e => by cases e; exact hDw)
    go_wp2_with (fail)
    refine ⟨by simp, .inl ⟨_, _, rfl, run_takeDeferred hKd, ?_⟩⟩
    exact ⟨_, results_tmp2 rfl _ _ _, va, vb, rfl, hnD H33.out, hnD HR3.out, hfin⟩
  case stop =>
    rintro D c pre W hD _ hx
    exact hx.elim
end Go.Proofs.YtehmhfbfgniekaaGreatDoor.Wk

namespace Go.Proofs.YtehmhfbfgniekaaGreatDoor.Wk
set_option linter.unusedVariables false
set_option linter.unusedSimpArgs false
open Go Go.RowKit Go.Proofs.YtehmhfbfgniekaaGreatDoorW.PrintWords Go.Proofs.YtehmhfbfgniekaaGreatDoorW.PrintLast Go.Proofs.YtehmhfbfgniekaaGreatDoorW.PrintMore Ob PObBase PObDoc PWkB Mp Rw
attribute [local go_sem] Oper.semAt_some
structure So (e0 e6 m5 b kk base : Nat) (l : List Hd) (w0 : World) (x z : Int) (W : World) : Prop where
  h0 : W.heap[e0]? = some (.cells #[.int .i64 x] 34 (0, 0))
  h6 : W.heap[e6]? = some (.cells #[.int .i64 z] 34 (0, 0))
  box : W.heap[m5]? = some (.cells #[.map (some b)] 60 (0, 0))
  mp : MapOf Tryz.prog 9 W b kk (bym l)
  low : Below w0.heap.size w0 W
  lt : e0 < base ∧ e6 < base ∧ m5 < base ∧ b < base ∧ w0.heap.size ≤ e0 ∧ w0.heap.size ≤ e6 ∧ e0 ≠ e6 ∧ m5 ≠ e0 ∧ m5 ≠ e6 ∧ b ≠ e0 ∧ b ≠ e6
variable {e0 e6 m5 b kk base : Nat} {l : List Hd} {w0 : World} {x z : Int} {W W' : World}
theorem own_ints {T : TypeId} (h1 : W.heap[e0]? = some (.cells #[.int .i64 x] T (0, 0))) (h2 : W.heap[e6]? = some (.cells #[.int .i64 z] T (0, 0))) (k : Nat) : own [e0, e6] W k ↔ k = e0 ∨ k = e6 := by
  rw [own_two h1 h2]
  simp [Value.ownBlock]
theorem So.keep (h : So e0 e6 m5 b kk base l w0 x z W) (hs : W.heap.size ≤ W'.heap.size) (hos : W'.os = W.os) (ht : W'.tape = W.tape) (ho : W'.output = W.output) (hb : ∀ k o, k < base → W.heap[k]? = some o → W'.heap[k]? = some o) (hw : w0.heap.size ≤ base) : So e0 e6 m5 b kk base l w0 x z W' := by
  have hlt := h.lt
  obtain ⟨D, ⟨es, cl, hD, hr⟩, hr2⟩ := h.mp
  refine ⟨hb _ _ hlt.1 h.h0, hb _ _ hlt.2.1 h.h6, hb _ _ hlt.2.2.1 h.box, ⟨D, ⟨es, cl, hb _ _ hlt.2.2.2.1 hD, hr⟩, hr2⟩, ⟨hos.trans h.low.os, ht.trans h.low.tape, ho.trans h.low.output, Nat.le_trans h.low.size hs, fun k hk => ?_⟩, hlt⟩
  have hkl : k < W.heap.size := Nat.lt_of_lt_of_le hk h.low.size
  have e : W.heap[k]? = some W.heap[k] := Array.getElem?_eq_getElem hkl
  rw [← h.low.block k hk, e]
  exact hb k _ (by omega) e
theorem So.wb (h : So e0 e6 m5 b kk base l w0 x z W) : w0.heap.size ≤ base := by have := h.lt; omega
theorem So.ownFrom : OwnFrom base (fun (_ : Unit) W => So e0 e6 m5 b kk base l w0 x z W) := fun s W W' row h hg hr =>
  h.keep hg.size hg.os hg.tape hg.output (fun k o hk hw => (hg.block k (blk_lt hw) (fun e => by have := (hr k e.symm).1; omega)).trans hw) h.wb
theorem So.chg {m : Nat} (h : So e0 e6 m5 b kk base l w0 x z W) (hm : base ≤ m) (hc : Chg [e0, e6] m W W') : So e0 e6 m5 b kk base l w0 x z W' :=
  h.keep hc.size hc.os hc.tape hc.output (fun k o hk hw => (hc.block k (blk_lt hw) (.inl (by omega))).trans hw) h.wb
theorem So.below (h : So e0 e6 m5 b kk base l w0 x z W) (hb : Below W.heap.size W W') : So e0 e6 m5 b kk base l w0 x z W' :=
  h.keep hb.size hb.os hb.tape hb.output (fun k o _ hk => (hb.block k (blk_lt hk)).trans hk) h.wb
theorem So.qb {mb : Nat} (h : So e0 e6 m5 b kk base l w0 x z W) (h1 : mb ≠ e0) (h2 : mb ≠ e6) : Qb [e0, e6] w0.heap.size mb b W := by
  intro k hk
  have hlt := h.lt
  rcases (own_ints h.h0 h.h6 k).1 hk with rfl | rfl
  · exact ⟨hlt.2.2.2.2.1, fun q => h1 q.symm, fun q => by omega, blk_lt h.h0⟩
  · exact ⟨hlt.2.2.2.2.2.1, fun q => h2 q.symm, fun q => by omega, blk_lt h.h6⟩
theorem So.set0 (h : So e0 e6 m5 b kk base l w0 x z W) (y : Int) : So e0 e6 m5 b kk base l w0 y z (W.setCell ⟨e0, 0, none⟩ (.int .i64 y)) := by
  have hlt := h.lt
  exact ⟨set_one h.h0, (set_other hlt.2.2.2.2.2.2.1.symm _ _).trans h.h6, (set_other hlt.2.2.2.2.2.2.2.1 _ _).trans h.box, h.mp.far (p := ⟨e0, 0, none⟩) hlt.2.2.2.2.2.2.2.2.2.1 _, h.low.setCell (p := ⟨e0, 0, none⟩) hlt.2.2.2.2.1 _, hlt⟩
theorem So.set6 (h : So e0 e6 m5 b kk base l w0 x z W) (y : Int) : So e0 e6 m5 b kk base l w0 x y (W.setCell ⟨e6, 0, none⟩ (.int .i64 y)) := by
  have hlt := h.lt
  exact ⟨(set_other hlt.2.2.2.2.2.2.1 _ _).trans h.h0, set_one h.h6, (set_other hlt.2.2.2.2.2.2.2.2.1 _ _).trans h.box, h.mp.far (p := ⟨e6, 0, none⟩) hlt.2.2.2.2.2.2.2.2.2.2 _, h.low.setCell (p := ⟨e6, 0, none⟩) hlt.2.2.2.2.2.1 _, hlt⟩
structure Rn (e0 e6 : Nat) (W W' : World) : Prop where
  os : W'.os = W.os
  tape : W'.tape = W.tape
  output : W'.output = W.output
  size : W.heap.size ≤ W'.heap.size
  block : ∀ k, k < W.heap.size → k ≠ e0 → k ≠ e6 → W'.heap[k]? = W.heap[k]?
theorem Rn.refl (e0 e6 : Nat) (W : World) : Rn e0 e6 W W := ⟨rfl, rfl, rfl, Nat.le_refl _, fun _ _ _ _ => rfl⟩
theorem Rn.trans {A B C : World} (h : Rn e0 e6 A B) (k : Rn e0 e6 B C) : Rn e0 e6 A C :=
  ⟨k.os.trans h.os, k.tape.trans h.tape, k.output.trans h.output, Nat.le_trans h.size k.size, fun i hi h1 h2 => (k.block i (Nat.lt_of_lt_of_le hi h.size) h1 h2).trans (h.block i hi h1 h2)⟩
theorem Rn.below {A B : World} (h : Below A.heap.size A B) : Rn e0 e6 A B := ⟨h.os, h.tape, h.output, h.size, fun k hk _ _ => h.block k hk⟩
theorem Rn.set0 (A : World) (v : Value) : Rn e0 e6 A (A.setCell ⟨e0, 0, none⟩ v) := ⟨rfl, rfl, rfl, by simp [World.setCell], fun k _ h1 _ => set_other h1 _ _⟩
theorem Rn.set6 (A : World) (v : Value) : Rn e0 e6 A (A.setCell ⟨e6, 0, none⟩ v) := ⟨rfl, rfl, rfl, by simp [World.setCell], fun k _ _ h2 => set_other h2 _ _⟩
theorem Rn.keeps {m : Nat} {x' z' : Int} (h : Rn e0 e6 W W') (hs : So e0 e6 m5 b kk base l w0 x z W) (hs' : So e0 e6 m5 b kk base l w0 x' z' W') : KeepsFrom m W W' ∧ Kpo [e0, e6] m W W' := by
  have ho := own_ints hs.h0 hs.h6
  have ho' := own_ints hs'.h0 hs'.h6
  refine ⟨⟨h.size, fun k o _ hk hc => (h.block k (blk_lt hk) (fun e => ?_) (fun e => ?_)).trans hk⟩, ⟨h.os, h.tape, h.output, h.size, fun k o hk _ hn => (h.block k (blk_lt hk) (fun e => hn ((ho k).2 (.inl e))) (fun e => hn ((ho k).2 (.inr e)))).trans hk, fun k _ q => (ho k).2 ((ho' k).1 q)⟩⟩
  · subst e; rw [hs.h0] at hk; cases hk; cases hc
  · subst e; rw [hs.h6] at hk; cases hk; cases hc
def OddN (l : List Hd) (s : ByteArray) : Prop := ∃ x ∈ wantsN l s, ((fnd l x.f0).getD z30).f0 ≠ x.f1
open Classical in
noncomputable def oddZ (p : Prop) : Int := if p then 3 else 0
theorem oddZ_congr {p q : Prop} (h : p ↔ q) : oddZ p = oddZ q := by unfold oddZ; by_cases hp : p
                                                                    · rw [if_pos hp, if_pos (h.1 hp)]
                                                                    · rw [if_neg hp, if_neg (fun k => hp (h.2 k))]
theorem oddZ_true {p : Prop} (h : p) : oddZ p = 3 := if_pos h
theorem oddZ_false {p : Prop} (h : ¬ p) : oddZ p = 0 := if_neg h
end Go.Proofs.YtehmhfbfgniekaaGreatDoor.Wk

namespace Go.Proofs.YtehmhfbfgniekaaGreatDoor.Wk
set_option linter.unusedVariables false
set_option linter.unusedSimpArgs false
open Go Go.RowKit Go.Proofs.YtehmhfbfgniekaaGreatDoorW.PrintWords Go.Proofs.YtehmhfbfgniekaaGreatDoorW.PrintLast Go.Proofs.YtehmhfbfgniekaaGreatDoorW.PrintMore Ob PObBase PObDoc PWkB Mp Rw
attribute [local go_sem] Oper.semAt_some
theorem results_cell_num {fn : Func} {p : Tmp} {ty : TypeId} (h : fn.results = #[.cell p ty]) (tmps : Array Value) (w : World) (g : Nat) (q : IntKind) (y : Int)
    (hp : tmps.getD p undef = .pointer (some ⟨g, 0, none⟩)) (hc : w.cell? ⟨g, 0, none⟩ = some (.int .i64 y)) (hu : Tryz.prog.underlying ty = some (.int q)) :
    (results fn tmps).run Tryz.prog w = .ok (.int .i64 y) w := by
  have hp' : tmps[p]?.getD undef = .pointer (some ⟨g, 0, none⟩) := by simpa using hp
  have hia : (isAgg ty).run Tryz.prog w = .ok false w := by simp [isAgg, run_underlying hu, Sem.run_bind, Result.andThen]
  simp [results, h, hp', asAddr, go_sem, hia, hc]
structure Sr (e0 e6 m5 b kk base : Nat) (l : List Hd) (w0 : World) (tips : List ByteArray) (pre : List Yl) (W : World) : Prop where
  so : So e0 e6 m5 b kk base l w0 0 (oddZ (∃ s ∈ pre.map (·.1), OddN l s)) W
  there : ∀ s ∈ pre.map (·.1), (fnd l s).isSome = true
def Sx (e0 e6 m5 b kk base : Nat) (l : List Hd) (w0 : World) (tips : List ByteArray) (c : Code) (W : World) : Prop :=
  c = .ret ∧ ∃ z, So e0 e6 m5 b kk base l w0 51 z W ∧ ∃ s, Reach (nxt l) tips s ∧ (fnd l s).isSome = false
set_option maxHeartbeats 16000000 in
set_option maxRecDepth 100000 in
theorem sound_walk (A : Option Addr) (n c : Nat) (l : List Hd) (B : Option Addr) (m d : Nat) (tips : List ByteArray) (w : World) (hC : Kd.C k49 w A n l) (hn : l.length = n) (hc : n ≤ c) (hD : Kd.C Kd.string w B m tips) (hm : tips.length = m) (hd : m ≤ d)
    (hl : Hsh l) (hts : Tsh tips) (hn1 : tips.length ≤ 1000000) (hn2 : l.length ≤ 100000) (ht : Tbl w) :
    Calls Tryz.prog 18 #[.slice A n c, .slice B m d] w fun e w' => e = .returned (.int .i64 (soundI l tips)) ∧ Below w.heap.size w w' := by
  subst hn hm
  have HC := As.mk hC
  have HD := As.mk hD
  have HL := As.mk hl
  have HTS := As.mk hts
  have HT := As.mk ht
  have hmax1 := Kd.C_max hC
  have hmax2 := Kd.C_max hD
  clear hC hD hl hts ht
  refine callsIn_wide.1 (callsIn_of_wp_marks (F := Fence.wide) (n := 5) Tryz.func18 rfl trivial ?_ rfl)
  refine wpIn_wide.2 ?_
  simp only [Tryz.ntmps18, List.size_toArray, List.length_cons, List.length_nil, Nat.reduceAdd, Nat.reduceSub, Array.replicate_succ, Array.replicate_zero, List.push_toArray, List.append_toArray, List.nil_append, List.cons_append]
  obtain ⟨W, hW⟩ : ∃ W, w.alloc (.cells #[.int .i64 0] 34) = W := ⟨_, rfl⟩
  have hWs : W.heap.size = w.heap.size + 1 := by rw [← hW]; simp
  have HBW : As (Below w.heap.size w W) := ⟨by rw [← hW]; exact below_new _ _⟩
  have HK1 : As (W.heap[w.heap.size]? = some (.cells #[.int .i64 0] 34 (0, 0))) := ⟨by rw [← hW]; exact blk_new w _⟩
  have hBY := by_one W (Kd.C_below HC.out HBW.out) hc HL.out (by omega)
  rw [hWs] at hBY
  have HBY := As.mk hBY
  clear hBY
  go_wp2_with (fail)
  refine HBY.out.mono ?_
  rintro e w1 ⟨rfl, ⟨k, hk, hM⟩, hb, hlt⟩
  have hb1 : Below w.heap.size w w1 := HBW.out.trans (hb.mono (by omega))
  have e1 : w1.heap[w.heap.size]? = some (.cells #[.int .i64 0] 34 (0, 0)) := (hb.block _ (by omega)).trans HK1.out
  obtain ⟨b, hbb⟩ : ∃ b, w.heap.size + 1 + 1 = b := ⟨_, rfl⟩
  rw [hbb] at hM hlt
  rw [hbb]
  obtain ⟨W2, hW2⟩ : ∃ W2, (w1.alloc (.cells #[.map (some b)] 60)).alloc (.cells #[.int .i64 0] 34) = W2 := ⟨_, rfl⟩
  have hW2s : W2.heap.size = w1.heap.size + 2 := by rw [← hW2]; simp
  have hb2 : Below w1.heap.size w1 W2 := by rw [← hW2]; exact (below_new _ _).alloc (by simp) _
  have e3 : W2.heap[w1.heap.size]? = some (.cells #[.map (some b)] 60 (0, 0)) := by rw [← hW2]; exact alloc_at (blk_new w1 _) _
  have e6' : W2.heap[w1.heap.size + 1]? = some (.cells #[.int .i64 0] 34 (0, 0)) := by
    rw [← hW2]
    have := blk_new (w1.alloc (.cells #[.map (some b)] 60)) (.cells #[.int .i64 0] 34)
    rwa [World.size_alloc] at this
  have hd8 : ∀ o, ((w1.alloc (.cells #[.map (some b)] 60)).alloc o).cell? ⟨w1.heap.size, 0, none⟩ = some (.map (some b)) := fun o => cell_box (alloc_at (blk_new w1 _) o)
  have HW2 := As.mk hW2
  clear hW2
  obtain ⟨m8, hm8⟩ : ∃ m8, w1.heap.size = m8 := ⟨_, rfl⟩
  obtain ⟨wl, hwl⟩ : ∃ wl, (W2.alloc (.cells #[.map (some b)] 60)).alloc (.cells #[.slice B tips.length d] 23) = wl := ⟨_, rfl⟩
  have hwls : wl.heap.size = W2.heap.size + 2 := by rw [← hwl]; simp
  have hb3 : Below W2.heap.size W2 wl := by rw [← hwl]; exact (below_new _ _).alloc (by simp) _
  have hTb : wl.heap[W2.heap.size + 1]? = some (.cells #[.slice B tips.length d] 23 (0, 0)) := by
    rw [← hwl]
    have := blk_new (W2.alloc (.cells #[.map (some b)] 60)) (.cells #[.slice B tips.length d] 23)
    rwa [World.size_alloc] at this
  have hMb : wl.heap[W2.heap.size]? = some (.cells #[.map (some b)] 60 (0, 0)) := by rw [← hwl]; exact alloc_at (blk_new W2 _) _
  have hb13 : Below w1.heap.size w1 wl := hb2.trans (hb3.mono hb2.size)
  have hbl : Below w.heap.size w wl := hb1.trans (hb13.mono hb1.size)
  have hMl := hM.below hb13
  have HIt := As.mk (met_iter 4 [w.heap.size, m8 + 1] w.heap.size (W2.heap.size + 1) W2.heap.size b k l tips B d w wl hTb hMb hMl (Kd.C_below HD.out hbl) hd HT.out rfl hbl HL.out HTS.out hn1 hn2)
  have HI0 : As (Sr w.heap.size (m8 + 1) m8 b k wl.heap.size l w tips [] wl) := ⟨{
    so := by
      rw [oddZ_false (by simp)]
      exact {
        h0 := (hb13.block _ (blk_lt e1)).trans e1
        h6 := by rw [← hm8]; exact (hb3.block _ (blk_lt e6')).trans e6'
        box := by rw [← hm8]; exact (hb3.block _ (blk_lt e3)).trans e3
        mp := hMl
        low := hbl
        lt := by omega }
    there := fun s hs => (by cases hs) }⟩
  have HL8 : As (m8 + 1 < wl.heap.size ∧ W2.heap.size < wl.heap.size ∧ W2.heap.size ≠ w.heap.size ∧ W2.heap.size ≠ m8 + 1 ∧ w.heap.size < wl.heap.size) := ⟨by omega⟩
  rw [hm8] at hW2s
  have HMT := As.mk (met_walk (some b) B tips.length d W2)
  rw [hwl] at HMT
  obtain ⟨mb, hmb⟩ : ∃ mb, W2.heap.size = mb := ⟨_, rfl⟩
  rw [hmb] at HIt HL8 HMT
  rw [hm8] at hd8
  clear hb1 e1 hb2 e3 e6' hb3 hTb hMb hb13 hbl hMl hM hb hlt HBY HK1 hwls
  go_wp2_with (fail)
  rw [HW2.out]
  refine HMT.out.mono ?_
  rintro e wl ⟨rfl, rfl⟩
  clear hW hwl hmb hm8 hbb hd8
  go_wp2_with (fail)
  refine (wpIn_wide (n := 5)).1 ?_
  refine range_own (F := Fence.wide) (n := 5) rfl (by decide) (gf := 45) (lb := #[.pointer (some ⟨mb + 1, 0, none⟩), .pointer (some ⟨mb, 0, none⟩)]) rfl trivial (enters_of Tryz.func45 (by kernel_rfl) rfl)
    (encs := encY) (Kp := Kpo [w.heap.size, m8 + 1] wl.heap.size) (Pr := Pr l tips wl.heap.size) (Ch := fun m => Chg [w.heap.size, m8 + 1] m) (Qq := Qb [w.heap.size, m8 + 1] w.heap.size mb b) (S := fun xs => Told (nxt l) tips (xs.map (·.1))) (Sp := fun _ => True) HIt.out (fun pre x W j o' h hp => pr_putObj pre x W j o' h hp) (fun m A B hc k hk hm => hc.block k hk (.inl hm)) (fun h k => h.trans k) (fun W j o o' hj ho hr => Kpo.putObj W j o o' hj ho hr (fun q hq => by have := HL8.out; rcases List.mem_cons.1 hq with rfl | hq; omega; rw [List.mem_singleton.1 hq]; omega)) (fun _ => rfl)
    (fun pre W => Sr w.heap.size (m8 + 1) m8 b k wl.heap.size l w tips pre W) (fun c _ W => Sx w.heap.size (m8 + 1) m8 b k wl.heap.size l w tips c W) (fun s W W' row hs hg hr => ⟨So.ownFrom () W W' row hs.so hg hr, hs.there⟩) (fun m s A B hm hs hc => ⟨hs.so.chg hm hc, hs.there⟩) (fun s A hs => hs.so.qb HL8.out.2.2.1 HL8.out.2.2.2.1) (fun c s W W' row hs hg hr => by
      obtain ⟨h1, z, h2, h3⟩ := hs
      exact ⟨h1, z, So.ownFrom () W W' row h2 hg hr, h3⟩) HI0.out
    ?a1 ?assign ?body ?done ?stop
  case a1 => exact fun x => { tmps := #[.slice A l.length c, .slice B tips.length d, undef, undef, .pointer (some ⟨w.heap.size, 0, none⟩), .pointer (some ⟨m8, 0, none⟩), .pointer (some ⟨m8 + 1, 0, none⟩), .string x.1, x.2, undef, undef, undef, undef, .slice A l.length c, .slice (some ⟨w.heap.size + 1, 0, none⟩) 1 1, .map (some b), .map (some b), .slice B tips.length d, .func (.func 45) #[] #[.pointer (some ⟨mb + 1, 0, none⟩), .pointer (some ⟨mb, 0, none⟩)], .string x.1, x.2, undef, undef, undef, undef, undef, undef, undef, undef, undef, undef, undef, undef, undef, undef, undef, undef, undef, undef, undef, undef, undef, undef, undef, undef], defers := [] }
  case assign =>
    intro j x W K hK
    unfold encY
    gi_wp2
    exact hK
  case body =>
    rintro j pre x W hj hI hPr
    have hxs : x.1.size ≤ maxLen := by
      obtain ⟨_, hr, _⟩ := hPr
      exact Nat.le_trans (Reach.sub (q := fun s => s.size ≤ 1000000000) HTS.out (fun s u _ hu => by
        obtain ⟨y, hy, rfl⟩ := List.mem_map.1 hu
        have := wants_named l s y hy
        omega) hr) (by decide)
    have hbx := cell_box hI.so.box
    obtain ⟨xs, xv⟩ := x
    have HI := As.mk hI
    have HRE := As.mk hPr.2.1
    have HRW : As (Kd.R k43 43 W wl.heap.size (fun _ => True) xv (wantsN l xs)) := ⟨hPr.2.2.1⟩
    have hmp := hI.so.mp
    clear hPr hI
    cases hf : fnd l xs with
    | none =>
      have hlk := hmp.run_look_ok (t := 60) (e := 30) Tryz.underlying9 Tryz.underlying60 (z := .agg #[.int .i64 0, .string ⟨#[]⟩]) rfl hxs (val := .agg #[.int .i64 0, .string ⟨#[]⟩]) (by unfold bym; rw [hf]; rfl) (is := false) (by unfold bym; rw [hf]; rfl)
      have hc0 : ∀ o, (W.alloc o).cell? ⟨w.heap.size, 0, none⟩ = some (.int .i64 0) := fun o => cell_box (alloc_at HI.out.so.h0 o)
      have hf0 : ∀ o, (W.alloc o).frozen? ⟨w.heap.size, 0, none⟩ = false := fun o => fz_at (alloc_at HI.out.so.h0 o) 0
      have HF := As.mk hf
      clear hf hmp
      gi_wp2
      have hs1 := (HI.out.so.below (below_new W (.cells #[.int .i64 0, .string ⟨#[]⟩] 30))).set0 51
      exact ⟨(((Rn.below (below_new W _)).trans (Rn.set0 _ _)).keeps HI.out.so hs1).1, rfl, _, hs1, xs, HRE.out, by rw [HF.out]; rfl⟩
    | some o =>
      obtain ⟨W1, hW1⟩ : ∃ W1, W.alloc (.cells #[.int .i64 o.f0, .string o.f1] 30) = W1 := ⟨_, rfl⟩
      have hb1 : Below W.heap.size W W1 := by rw [← hW1]; exact below_new _ _
      have HB1 := As.mk hb1
      have hlk := hmp.run_look_ok (t := 60) (e := 30) Tryz.underlying9 Tryz.underlying60 (z := .agg #[.int .i64 0, .string ⟨#[]⟩]) rfl hxs (val := .agg #[.int .i64 o.f0, .string o.f1]) (by unfold bym; rw [hf]; rfl) (is := true) (by unfold bym; rw [hf]; rfl)
      have HSO1 := As.mk (HI.out.so.below hb1)
      have HR1 : As (Kd.R k43 43 W1 wl.heap.size (fun _ => True) xv (wantsN l xs)) := ⟨Kd.R_below HRW.out hb1⟩
      have HF : As ((fnd l xs).isSome = true) := ⟨by rw [hf]; rfl⟩
      obtain ⟨A7, c7, hv7, hc7, hC7⟩ := Kd.R_reads HR1.out
      subst hv7
      obtain ⟨ids, hids⟩ : ∃ ids, wantsN l xs = ids := ⟨_, rfl⟩
      have HIDS := As.mk hids
      have HIT : As (∀ y ∈ ids, y.f0.size ≤ maxLen) := ⟨fun y hy => by have := wants_named l xs y (by rw [hids]; exact hy); have hm : maxLen = 9223372036854775807 := rfl; omega⟩
      have hlen := wantsN_len l xs
      rw [hids] at HR1 hc7 hlen ⊢
      obtain ⟨n7, hn7⟩ : ∃ n7, ids.length = n7 := ⟨_, rfl⟩
      have HN7 := As.mk hn7
      rw [hn7] at HR1 hc7 hlen ⊢
      obtain ⟨P0, hP0⟩ : ∃ P0, (∃ s ∈ pre.map (·.1), OddN l s) = P0 := ⟨_, rfl⟩
      have HP0 := As.mk hP0
      rw [hP0] at HSO1
      clear hb1 hf hmp hC7 hids hn7 HRW hP0
      gi_wp2
      gi_loopw [31] (fun v31 wq => ∃ i : Nat, v31 = .int .i64 i ∧ i ≤ n7 ∧ As (So w.heap.size (m8 + 1) m8 b k wl.heap.size l w 0 (oddZ (P0 ∨ ∃ y ∈ ids.take i, ((fnd l y.f0).getD z30).f0 ≠ y.f1)) wq) ∧ As (Rn w.heap.size (m8 + 1) W1 wq) ∧ As (Kd.R k43 43 wq wl.heap.size (fun _ => True) (.slice A7 n7 c7) ids)) (fun v31 _ => n7 - (intOf v31).toNat)
      case atStart => exact ⟨0, rfl, by omega, ⟨by rw [oddZ_congr (q := P0) (by simp)]; exact HSO1.out⟩, ⟨Rn.refl _ _ _⟩, HR1⟩
      case round =>
        obtain ⟨i, rfl, hi, HSq, HRq, HWq⟩ := hrel
        by_cases hlt : i < n7
        · have hil : i < ids.length := by rw [HN7.out]; exact hlt
          have hCq := (Kd.R_reads' HWq.out).2.2
          rw [HN7.out] at hCq
          obtain ⟨ad7, hA7, g70, g71⟩ := at_T43 hCq (i : Int) (by omega) (by omega)
          rw [Int.toNat_natCast] at g70 g71
          obtain ⟨y, hy⟩ : ∃ y, rd_T43 ids (i : Int) = y := ⟨_, rfl⟩
          have HX : As (ids[i]? = some y) := ⟨by rw [← hy]; simp [rd_T43, hil]⟩
          rw [hy] at g70 g71
          subst hA7
          have hys := HIT.out y (List.mem_of_getElem? HX.out)
          obtain ⟨W', hW'⟩ : ∃ W', wr.alloc (.cells #[.string y.f0, .int .i64 y.f1] 43) = W' := ⟨_, rfl⟩
          have hbq : Below wr.heap.size wr W' := by rw [← hW']; exact below_new _ _
          have hKq : W'.heap[wr.heap.size]? = some (.cells #[.string y.f0, .int .i64 y.f1] 43 (0, 0)) := by rw [← hW']; exact blk_new wr _
          have hd0 : W'.cell? ⟨wr.heap.size, 0, none⟩ = some (.string y.f0) := (blk_cell hKq 0).trans rfl
          have hd1 : W'.cell? ⟨wr.heap.size, 1, none⟩ = some (.int .i64 y.f1) := (blk_cell hKq 1).trans rfl
          have HS' := As.mk (HSq.out.below hbq)
          have HR' : As (Rn w.heap.size (m8 + 1) W1 W') := ⟨HRq.out.trans (Rn.below hbq)⟩
          have HWr' : As (Kd.R k43 43 W' wl.heap.size (fun _ => True) (.slice (some ad7) n7 c7) ids) := ⟨Kd.R_below HWq.out hbq⟩
          have hbx' := cell_box HS'.out.box
          have hc6 := cell_box HS'.out.h6
          have hf6 : W'.frozen? ⟨m8 + 1, 0, none⟩ = false := fz_at HS'.out.h6 0
          obtain ⟨o2, ho2⟩ : ∃ o2, (fnd l y.f0).getD z30 = o2 := ⟨_, rfl⟩
          have hlk2 := HS'.out.mp.run_look (t := 60) (e := 30) Tryz.underlying9 Tryz.underlying60 (z := .agg #[.int .i64 0, .string ⟨#[]⟩]) rfl hys (val := .agg #[.int .i64 o2.f0, .string o2.f1]) (by rw [← ho2]; unfold bym; cases fnd l y.f0 <;> rfl)
          have hfd : ∀ w : World, (Instr.field 30 (.agg #[.int .i64 o2.f0, .string o2.f1]) 0).run Tryz.prog w = .ok (.int .i64 o2.f0) w := fun _ => by kernel_rfl
          have HO2 := As.mk ho2
          have HTK : As (∀ q : Wnt → Prop, (∃ x ∈ ids.take (i + 1), q x) ↔ (∃ x ∈ ids.take i, q x) ∨ q y) := ⟨fun q => by rw [take_snoc HX.out]; simp [or_and_right, exists_or]⟩
          clear hy hil hCq hbq hKq ho2
          by_cases hk2 : o2.f0 = y.f1
          · have hne : (o2.f0 != y.f1) = false := by rw [hk2]; simp
            have HZ : As (oddZ (P0 ∨ ∃ x ∈ ids.take (i + 1), ((fnd l x.f0).getD z30).f0 ≠ x.f1) = oddZ (P0 ∨ ∃ x ∈ ids.take i, ((fnd l x.f0).getD z30).f0 ≠ x.f1)) := ⟨oddZ_congr (by
              rw [HTK.out (fun x => ((fnd l x.f0).getD z30).f0 ≠ x.f1), HO2.out]
              exact ⟨fun h => h.imp id (fun h => h.elim id (fun h => absurd hk2 h)), fun h => h.imp id .inl⟩)⟩
            clear hk2
            gi_wp2
            exact ⟨⟨i + 1, by go_num, by omega, ⟨by rw [HZ.out]; exact HS'.out⟩, HR', HWr'⟩, by simp [intOf]; omega⟩
          · have hne : (o2.f0 != y.f1) = true := by simpa using hk2
            have HZ : As (oddZ (P0 ∨ ∃ x ∈ ids.take (i + 1), ((fnd l x.f0).getD z30).f0 ≠ x.f1) = 3) := ⟨oddZ_true (.inr ((HTK.out (fun x => ((fnd l x.f0).getD z30).f0 ≠ x.f1)).2 (.inr (by rw [HO2.out]; exact hk2))))⟩
            clear hk2
            gi_wp2
            have hs3 := HS'.out.set6 3
            have hr3 := HR'.out.trans (Rn.set6 W' (.int .i64 3))
            have hw3 : Kd.R k43 43 (W'.setCell ⟨m8 + 1, 0, none⟩ (.int .i64 3)) wl.heap.size (fun _ => True) (.slice (some ad7) n7 c7) ids := Kd.R_mono (Kd.R_move (Kd.R_bound HWr'.out) (fun k hk => set_other (by have := hk.2.1; have := HL8.out; omega) _ _)) (fun _ _ => trivial)
            exact ⟨⟨i + 1, by go_num, by omega, ⟨by rw [HZ.out]; exact hs3⟩, ⟨hr3⟩, ⟨hw3⟩⟩, by simp [intOf]; omega⟩
        · have hin : i = n7 := by omega
          subst hin
          gi_wp2
          have hsq := HSq.out
          rw [List.take_of_length_le (by rw [HN7.out]; exact Nat.le_refl _)] at hsq
          have hz : oddZ (∃ s ∈ (pre ++ [(xs, Value.slice A7 i c7)]).map (·.1), OddN l s) = oddZ (P0 ∨ ∃ y ∈ ids, ((fnd l y.f0).getD z30).f0 ≠ y.f1) := oddZ_congr (by
            rw [List.map_append, ← HP0.out]
            show (∃ s, s ∈ pre.map (·.1) ++ [xs] ∧ OddN l s) ↔ _
            have e : OddN l xs ↔ ∃ y ∈ ids, ((fnd l y.f0).getD z30).f0 ≠ y.f1 := by unfold OddN; rw [HIDS.out]
            rw [← e]
            simp only [List.mem_append, List.mem_singleton, or_and_right, exists_or, exists_eq_left])
          rw [← hz] at hsq
          have hk := ((Rn.below HB1.out).trans HRq.out).keeps (m := wl.heap.size) HI.out.so hsq
          exact ⟨hk.1, hk.2, hsq, fun s hs => by
            rw [List.map_append] at hs
            rcases List.mem_append.1 hs with hs | hs
            · exact HI.out.there s hs
            · rw [List.mem_singleton.1 hs]; exact HF.out⟩
  case done =>
    rintro D xs W hD hS hI hK
    have hDw : w.heap.size ≤ D := by have := HL8.out; omega
    have hsd : soundI l tips = oddZ (∃ s ∈ xs.map (·.1), OddN l s) := by
      have hl0 : lackL l tips = [] := List.eq_nil_iff_forall_not_mem.2 (fun s hs => by
        obtain ⟨h1, h2⟩ := lack_mem.1 hs
        rw [hI.there s ((hS.all s).2 h1)] at h2
        cases h2)
      unfold soundI
      rw [if_neg (by rw [hl0]; simp)]
      exact oddZ_congr ⟨fun ⟨s, h1, h2⟩ => ⟨s, (hS.all s).2 h1, h2⟩, fun ⟨s, h1, h2⟩ => ⟨s, (hS.all s).1 h1, h2⟩⟩
    obtain ⟨z, hz⟩ : ∃ z, oddZ (∃ s ∈ xs.map (·.1), OddN l s) = z := ⟨_, rfl⟩
    have hso := hI.so
    rw [hz] at hso hsd
    have hc6 := cell_box hso.h6
    have hc0 := cell_box hso.h0
    have hf0 : W.frozen? ⟨w.heap.size, 0, none⟩ = false := fz_at hso.h0 0
    have hs0 := hso.set0 z
    have hk0 : (W.setCell ⟨w.heap.size, 0, none⟩ (.int .i64 z)).heap[D]? = some (.deferred (some [])) := (set_other (by have := HL8.out; omega) _ _).trans hK
    have HS0 := As.mk hs0
    have HSD := As.mk hsd
    have HK0 := As.mk hk0
    clear hz hso hI hS hsd hs0 hk0 hK
    go_wp2_with (fail)
    have hb0 := HS0.out.low
    refine ⟨by simp, .inl ⟨_, _, rfl, run_takeDeferred HK0.out, ?_⟩⟩
    refine ⟨_, results_cell_num rfl _ _ w.heap.size .i64 z rfl ?_ Tryz.underlying34, by rw [HSD.out], ?_⟩
    · exact cell_box ((World.putObj_heap_other (by have := HL8.out; omega)).trans HS0.out.h0)
    · exact hb0.grown (grownBy_putObj' _ D _) hb0.size (fun k e => by cases e; exact hDw)
  case stop =>
    rintro D c pre W hD _ hx hK
    obtain ⟨rfl, z, hso, s, hs1, hs2⟩ := hx
    have hDw : w.heap.size ≤ D := by have := HL8.out; omega
    have hsd : soundI l tips = 51 := by
      unfold soundI
      rw [if_pos (fun e => by have := lack_mem.2 ⟨hs1, hs2⟩; rw [e] at this; cases this)]
    have HSO := As.mk hso
    have HK0 := As.mk hK
    have HSD := As.mk hsd
    clear hso hK hsd hs1 hs2
    gi_wp2
    go_wp2_with (fail)
    have hb0 := HSO.out.low
    refine ⟨by simp, .inl ⟨_, _, rfl, run_takeDeferred HK0.out, ?_⟩⟩
    refine ⟨_, results_cell_num rfl _ _ w.heap.size .i64 51 rfl ?_ Tryz.underlying34, by rw [HSD.out], ?_⟩
    · exact cell_box ((World.putObj_heap_other (by have := HL8.out; omega)).trans HSO.out.h0)
    · exact hb0.grown (grownBy_putObj' _ D _) hb0.size (fun k e => by cases e; exact hDw)
end Go.Proofs.YtehmhfbfgniekaaGreatDoor.Wk

namespace Go.Proofs.YtehmhfbfgniekaaGreatDoor.Wk
set_option linter.unusedVariables false
set_option linter.unusedSimpArgs false
open Go Go.RowKit Go.Proofs.YtehmhfbfgniekaaGreatDoorW.PrintWords Go.Proofs.YtehmhfbfgniekaaGreatDoorW.PrintLast Go.Proofs.YtehmhfbfgniekaaGreatDoorW.PrintMore Ob PWkB
namespace Gv
def Csm (l : List Hd) (tips : List ByteArray) : Prop := Hsh l ∧ Tsh tips ∧ tips.length ≤ 1000000 ∧ l.length ≤ 100000
noncomputable def closure.f (l0 : List Hd) (l1 : List ByteArray) : Option (List ByteArray × List ByteArray) := by classical exact if Csm l0 l1 then some (thereL l0 l1, lackL l0 l1) else none
theorem closure.f_eq {l : List Hd} {tips : List ByteArray} (h : Csm l tips) : closure.f l tips = some (thereL l tips, lackL l tips) := by unfold closure.f; rw [if_pos h]
theorem closure.calls (A0 : Option Addr) (c0 : Nat) (l0 : List Hd) (A1 : Option Addr) (c1 : Nat) (l1 : List ByteArray) (r1 : List ByteArray) (r2 : List ByteArray) (w : World) (hr0 : Kd.C k49 w A0 l0.length l0) (hc0 : l0.length ≤ c0) (hr1 : Kd.C Kd.string w A1 l1.length l1) (hc1 : l1.length ≤ c1) (h : closure.f l0 l1 = some (r1, r2)) (ht : Tbl w) :
    Calls Tryz.prog 13 #[.slice A0 l0.length c0, .slice A1 l1.length c1] w fun e w' => ∃ v0_ v1_ : Value, e = .returned (.tuple #[v0_, v1_]) ∧ Kd.R Kd.string 9 w' w.heap.size (fun k_ => some k_ ≠ (v1_ : Value).ownBlock) v0_ r1 ∧ Kd.R Kd.string 9 w' w.heap.size (fun k_ => some k_ ≠ (v0_ : Value).ownBlock) v1_ r2 ∧ Below w.heap.size w w' := by
  unfold closure.f at h
  split at h
  · rename_i h0
    injection Option.some.inj h with e1 e2
    rw [← e1, ← e2]
    exact closure_walk A0 _ c0 l0 A1 _ c1 l1 w hr0 rfl hc0 hr1 rfl hc1 h0.1 h0.2.1 h0.2.2.1 h0.2.2.2 ht
  · cases h
end Gv
end Go.Proofs.YtehmhfbfgniekaaGreatDoor.Wk

namespace Go.Proofs.YtehmhfbfgniekaaGreatDoor.Wk
set_option linter.unusedVariables false
set_option linter.unusedSimpArgs false
set_option maxRecDepth 1000000
open Go Go.RowKit Go.Proofs.YtehmhfbfgniekaaGreatDoorW.PrintWords Go.Proofs.YtehmhfbfgniekaaGreatDoorW.PrintLast Go.Proofs.YtehmhfbfgniekaaGreatDoorW.PrintMore Ob PObBase PObDoc PWkB
def bx1 : ByteArray := ⟨#[120]⟩
def hx : ByteArray := ⟨#[97, 53, 100, 52, 100, 54, 98, 55, 97, 50, 52, 57, 52, 51, 56, 57, 54, 100, 101, 57, 53, 100, 50, 53, 97, 50, 54, 102, 97, 48, 55, 51, 50, 55, 98, 55, 50, 50, 100, 49, 51, 53, 100, 55, 57, 100, 56, 99, 99, 51, 98, 56, 55, 51, 102, 98, 57, 56, 51, 48, 52, 56, 51, 102]⟩
def tx : ByteArray := ⟨#[49, 32, 102, 0, 97, 53, 100, 52, 100, 54, 98, 55, 97, 50, 52, 57, 52, 51, 56, 57, 54, 100, 101, 57, 53, 100, 50, 53, 97, 50, 54, 102, 97, 48, 55, 51, 50, 55, 98, 55, 50, 50, 100, 49, 51, 53, 100, 55, 57, 100, 56, 99, 99, 51, 98, 56, 55, 51, 102, 98, 57, 56, 51, 48, 52, 56, 51, 102]⟩
def hc : ByteArray := ⟨#[99, 48, 53, 48, 56, 101, 50, 54, 100, 54, 57, 52, 56, 54, 102, 54, 54, 56, 56, 52, 51, 48, 101, 48, 100, 97, 49, 57, 54, 57, 102, 50, 100, 50, 99, 57, 57, 49, 98, 51, 53, 102, 48, 53, 98, 48, 99, 55, 55, 101, 54, 97, 48, 56, 100, 98, 55, 50, 48, 99, 101, 102, 51, 101]⟩
theorem n_b : nameS ⟨#[98, 108, 111, 98, 32, 49, 10, 120]⟩ = hx := by kernel_rfl
theorem n_c : nameS ⟨#[116, 114, 101, 101, 32, 54, 56, 10, 49, 32, 102, 0, 97, 53, 100, 52, 100, 54, 98, 55, 97, 50, 52, 57, 52, 51, 56, 57, 54, 100, 101, 57, 53, 100, 50, 53, 97, 50, 54, 102, 97, 48, 55, 51, 50, 55, 98, 55, 50, 50, 100, 49, 51, 53, 100, 55, 57, 100, 56, 99, 99, 51, 98, 56, 55, 51, 102, 98, 57, 56, 51, 48, 52, 56, 51, 102]⟩ = hc := by kernel_rfl
theorem id_b : idS 1 bx1 = hx := by
  unfold idS
  rw [if_pos (by rw [rightB_1]; rfl), show idT 1 bx1 = ⟨#[98, 108, 111, 98, 32, 49, 10, 120]⟩ by decide +kernel, n_b]
theorem tree_b : treeB [⟨1, ⟨#[102]⟩, hx⟩] = true := by decide +kernel
theorem put_t : putTree [⟨1, ⟨#[102]⟩, hx⟩] = (tx, true) := putTree_iff.2 ⟨tree_b, by decide +kernel⟩
theorem get_t : getTree tx = ([⟨1, ⟨#[102]⟩, hx⟩], true) := (getTree_iff tx _).2 put_t
theorem right_t : rightB 2 tx = true := by rw [rightB_2, get_t]; decide +kernel
theorem id_c : idS 2 tx = hc := by
  unfold idS
  rw [if_pos right_t, show idT 2 tx = ⟨#[116, 114, 101, 101, 32, 54, 56, 10, 49, 32, 102, 0, 97, 53, 100, 52, 100, 54, 98, 55, 97, 50, 52, 57, 52, 51, 56, 57, 54, 100, 101, 57, 53, 100, 50, 53, 97, 50, 54, 102, 97, 48, 55, 51, 50, 55, 98, 55, 50, 50, 100, 49, 51, 53, 100, 55, 57, 100, 56, 99, 99, 51, 98, 56, 55, 51, 102, 98, 57, 56, 51, 48, 52, 56, 51, 102]⟩ by decide +kernel, n_c]
theorem id_9 : idS 9 ⟨#[]⟩ = ⟨#[]⟩ := by
  unfold idS
  rw [if_neg (by unfold rightB; simp)]
theorem hx_hc : hx ≠ hc := by decide +kernel
theorem hx_0 : hx ≠ ⟨#[]⟩ := by decide +kernel
theorem hc_0 : hc ≠ ⟨#[]⟩ := by decide +kernel
theorem wants_c : wantsL 2 tx = [⟨hx, 1⟩] := by
  unfold wantsL
  rw [if_pos right_t, if_pos rfl, get_t]; rfl
theorem wants_b : wantsL 1 bx1 = [] := by unfold wantsL; split <;> rfl
def ob1 : Ob1 := ⟨1, bx1⟩
def oc1 : Ob1 := ⟨2, tx⟩
def o9 : Ob1 := ⟨9, ⟨#[]⟩⟩
theorem setM4 (s : ByteArray) : setM [oc1, ob1, ob1, o9] s = if s = hx then some ob1 else if s = hc then some oc1 else none := by
  simp only [setM, ob1, oc1, o9, id_b, id_c, id_9]
  by_cases h1 : s = hx
  · subst h1
    rw [if_neg (show ¬ ((⟨#[]⟩ : ByteArray) = hx ∧ hx ≠ ⟨#[]⟩) from fun h => h.2 h.1.symm), if_pos ⟨rfl, hx_0⟩, if_pos rfl]; rfl
  · by_cases h2 : s = hc
    · subst h2
      rw [if_neg (show ¬ ((⟨#[]⟩ : ByteArray) = hc ∧ hc ≠ ⟨#[]⟩) from fun h => h.2 h.1.symm), if_neg (show ¬ (hx = hc ∧ hc ≠ ⟨#[]⟩) from fun h => hx_hc h.1), if_pos ⟨rfl, hc_0⟩, if_neg h1, if_pos rfl]; rfl
    · rw [if_neg (fun h => h.2 h.1.symm), if_neg (fun h => h1 h.1.symm), if_neg (fun h => h2 h.1.symm), if_neg h1, if_neg h2]; rfl
open Classical in
theorem fnd_map (g : ByteArray → Option Ob1) (s : ByteArray) : ∀ ks : List ByteArray, fnd (ks.map (fun k => ⟨k, (g k).getD z30⟩)) s = if s ∈ ks then some ((g s).getD z30) else none
  | [] => by simp [fnd]
  | k :: ks => by
    rw [List.map_cons, fnd_cons, fnd_map g s ks]
    by_cases e : s = k
    · subst e; simp
    · simp [e]
open Classical in
theorem fnd_setOf {g : ByteArray → Option Ob1} (l : List ByteArray) (h : ∀ s, (g s).isSome = true → s ∈ l) (s : ByteArray) : fnd (setOf g) s = g s := by
  have hr : Rises (fun s => (g s).isSome = true) (riseS (fun s => (g s).isSome = true)) := rises_of (l.filter (fun s => (g s).isSome)) (fun s => by rw [List.mem_filter]; exact ⟨fun k => k.2, fun k => ⟨h s k, k⟩⟩)
  unfold setOf
  rw [fnd_map, show (s ∈ riseS (fun s => (g s).isSome = true)) = ((g s).isSome = true) from propext (hr.mem s)]
  cases hg : g s with
  | none => simp
  | some o => simp
theorem len_setOf {g : ByteArray → Option Ob1} (l : List ByteArray) (hn : l.Nodup) (h : ∀ s, (g s).isSome = true ↔ s ∈ l) : (setOf g).length = l.length := by
  unfold setOf
  rw [List.length_map]
  have h1 := rises_sort (p := fun s => (g s).isSome = true) l hn (fun s => (h s).symm)
  rw [h1.riseS]
  unfold sortL
  exact List.length_mergeSort _
theorem len_two {p : ByteArray → Prop} {ks l : List ByteArray} (h : Rises p ks) (hn : l.Nodup) (hl : ∀ s, s ∈ l ↔ p s) : ks.length = l.length := by
  rw [h.eq (rises_sort l hn hl) (fun _ => Iff.rfl)]
  unfold sortL
  exact List.length_mergeSort _
noncomputable def L2 : List Hd := setOf (setM [oc1, ob1, ob1, o9])
theorem some_L2 (s : ByteArray) : (setM [oc1, ob1, ob1, o9] s).isSome = true ↔ s ∈ [hx, hc] := by
  rw [setM4]
  by_cases h1 : s = hx
  · simp [h1]
  · by_cases h2 : s = hc
    · rw [if_neg h1, if_pos h2]; simp [h2]
    · simp [h1, h2]
theorem fnd_L2 (s : ByteArray) : fnd L2 s = if s = hx then some ob1 else if s = hc then some oc1 else none := by
  unfold L2
  rw [fnd_setOf [hx, hc] (fun s h => (some_L2 s).1 h), setM4]
theorem nd2 : [hx, hc].Nodup := by simp [hx_hc]
theorem len_L2 : L2.length = 2 := len_setOf [hx, hc] nd2 some_L2
theorem nxt_hx : nxt L2 hx = [] := by unfold nxt wantsN; rw [fnd_L2, if_pos rfl]; show (wantsL 1 bx1).map _ = _; rw [wants_b]; rfl
theorem nxt_hc : nxt L2 hc = [hx] := by unfold nxt wantsN; rw [fnd_L2, if_neg hx_hc.symm, if_pos rfl]; show (wantsL 2 tx).map _ = _; rw [wants_c]; rfl
theorem reach_c (s : ByteArray) : Reach (nxt L2) [hc] s ↔ s ∈ [hx, hc] := by
  constructor
  · intro h
    refine h.sub (fun s hs => by rw [List.mem_singleton.1 hs]; simp) (fun s t hs ht => ?_)
    rcases List.mem_cons.1 hs with rfl | hs
    · rw [nxt_hx] at ht; cases ht
    · rw [List.mem_singleton.1 hs, nxt_hc] at ht
      rw [List.mem_singleton.1 ht]; simp
  · intro h
    have hh : Reach (nxt L2) [hc] hc := .tip (by simp)
    rcases List.mem_cons.1 h with rfl | h
    · exact .step hh (by rw [nxt_hc]; simp)
    · rw [List.mem_singleton.1 h]; exact hh
theorem isS_L2 {s : ByteArray} (h : s ∈ [hx, hc]) : (fnd L2 s).isSome = true := by
  rw [fnd_L2]
  rcases List.mem_cons.1 h with rfl | h
  · rw [if_pos rfl]; rfl
  · rw [List.mem_singleton.1 h, if_neg hx_hc.symm, if_pos rfl]; rfl
theorem len_there : (thereL L2 [hc]).length = 2 := len_two (l := [hx, hc]) (rises_there L2 [hc]) nd2 (fun s => ⟨fun h => ⟨(reach_c s).2 h, isS_L2 h⟩, fun h => (reach_c s).1 h.1⟩)
theorem lack_none : lackL L2 [hc] = [] := List.eq_nil_iff_forall_not_mem.2 (fun s hs => by
  obtain ⟨h1, h2⟩ := lack_mem.1 hs
  rw [isS_L2 ((reach_c s).1 h1)] at h2; cases h2)
def L1 : List Hd := [⟨hc, oc1⟩]
theorem hsh_L1 : Hsh L1 := fun x hx1 => by
  have z2 : hc.size = 64 := by decide +kernel
  have z4 : tx.size = 68 := by decide +kernel
  rw [List.mem_singleton.1 hx1]
  exact ⟨by show hc.size ≤ _; omega, by show tx.size ≤ _; omega⟩
theorem fnd_L1 (s : ByteArray) : fnd L1 s = if s = hc then some oc1 else none := fnd_one _ _
theorem nxt1_hx : nxt L1 hx = [] := by unfold nxt wantsN; rw [fnd_L1, if_neg hx_hc]; rfl
theorem nxt1_hc : nxt L1 hc = [hx] := by unfold nxt wantsN; rw [fnd_L1, if_pos rfl]; show (wantsL 2 tx).map _ = _; rw [wants_c]; rfl
theorem reach_1 (s : ByteArray) : Reach (nxt L1) [hc] s ↔ s ∈ [hx, hc] := by
  constructor
  · intro h
    refine h.sub (fun s hs => by rw [List.mem_singleton.1 hs]; simp) (fun s t hs ht => ?_)
    rcases List.mem_cons.1 hs with rfl | hs
    · rw [nxt1_hx] at ht; cases ht
    · rw [List.mem_singleton.1 hs, nxt1_hc] at ht
      rw [List.mem_singleton.1 ht]; simp
  · intro h
    have hh : Reach (nxt L1) [hc] hc := .tip (by simp)
    rcases List.mem_cons.1 h with rfl | h
    · exact .step hh (by rw [nxt1_hc]; simp)
    · rw [List.mem_singleton.1 h]; exact hh
theorem there_1 : thereL L1 [hc] = [hc] := by
  refine (rises_there L1 [hc]).eq (b := [hc]) ⟨List.pairwise_singleton _ _, fun s => Iff.rfl⟩ (fun s => ?_)
  constructor
  · rintro ⟨h1, h2⟩
    rw [fnd_L1] at h2
    by_cases e : s = hc
    · rw [e]; simp
    · rw [if_neg e] at h2; cases h2
  · intro h
    rw [List.mem_singleton.1 h]
    exact ⟨.tip (by simp), by rw [fnd_L1, if_pos rfl]; rfl⟩
theorem lack_1 : lackL L1 [hc] = [hx] := by
  refine (rises_lack L1 [hc]).eq (b := [hx]) ⟨List.pairwise_singleton _ _, fun s => Iff.rfl⟩ (fun s => ?_)
  constructor
  · rintro ⟨h1, h2⟩
    rcases List.mem_cons.1 ((reach_1 s).1 h1) with rfl | h
    · simp
    · rw [List.mem_singleton.1 h, fnd_L1, if_pos rfl] at h2; cases h2
  · intro h
    rw [List.mem_singleton.1 h]
    exact ⟨(reach_1 hx).2 (by simp), by rw [fnd_L1, if_neg hx_hc]; rfl⟩
theorem sound_L2 : soundI L2 (thereL L2 [hc]) = 0 := by
  have hr : ∀ s, Reach (nxt L2) (thereL L2 [hc]) s → s ∈ [hx, hc] := fun s h => (reach_c s).1 (h.of (fun s hs => (there_mem.1 hs).1))
  have hl : lackL L2 (thereL L2 [hc]) = [] := List.eq_nil_iff_forall_not_mem.2 (fun s hs => by
    obtain ⟨h1, h2⟩ := lack_mem.1 hs
    rw [isS_L2 (hr s h1)] at h2; cases h2)
  unfold soundI
  rw [if_neg (by rw [hl]; simp), if_neg]
  rintro ⟨s, h1, x, hx1, hx2⟩
  rcases List.mem_cons.1 (hr s h1) with rfl | h
  · rw [show wantsN L2 hx = [] by unfold wantsN; rw [fnd_L2, if_pos rfl]; exact wants_b] at hx1
    cases hx1
  · rw [List.mem_singleton.1 h, show wantsN L2 hc = [⟨hx, 1⟩] by unfold wantsN; rw [fnd_L2, if_neg hx_hc.symm, if_pos rfl]; exact wants_c] at hx1
    rw [List.mem_singleton.1 hx1] at hx2
    exact hx2 (by show ((fnd L2 hx).getD _).f0 = 1; rw [fnd_L2, if_pos rfl]; rfl)
theorem sound_nil : soundI [] (thereL L2 [hc]) = 51 := by
  have hm : hc ∈ lackL [] (thereL L2 [hc]) := lack_mem.2 ⟨.tip (there_mem.2 ⟨(reach_c hc).2 (by simp), isS_L2 (by simp)⟩), rfl⟩
  unfold soundI
  rw [if_pos (fun e => by rw [e] at hm; cases hm)]
theorem join_L2 : (setOf (fnd (L2 ++ L2))).length = 2 := len_setOf [hx, hc] nd2 (fun s => by
  rw [fnd_app, show (fnd L2 s).or (fnd L2 s) = fnd L2 s by cases fnd L2 s <;> rfl]
  rw [fnd_L2, ← setM4]
  exact some_L2 s)
theorem hsh_L2 : Hsh L2 := fun x hx1 => by
  have h1 : (fnd L2 x.f0).isSome = true := fnd_some.2 (List.mem_map_of_mem hx1)
  unfold L2 setOf at hx1
  obtain ⟨s, hs, rfl⟩ := List.mem_map.1 hx1
  have h2 : s ∈ [hx, hc] := by
    rw [fnd_L2] at h1
    by_cases e1 : s = hx
    · simp [e1]
    · by_cases e2 : s = hc
      · simp [e2]
      · rw [if_neg e1, if_neg e2] at h1; cases h1
  have z1 : hx.size = 64 := by decide +kernel
  have z2 : hc.size = 64 := by decide +kernel
  have z3 : bx1.size = 1 := rfl
  have z4 : tx.size = 68 := by decide +kernel
  show s.size ≤ _ ∧ ((setM [oc1, ob1, ob1, o9] s).getD _).f1.size ≤ _
  rcases List.mem_cons.1 h2 with rfl | h2
  · rw [setM4, if_pos rfl]
    exact ⟨by omega, by show bx1.size ≤ _; omega⟩
  · rw [List.mem_singleton.1 h2, setM4, if_neg hx_hc.symm, if_pos rfl]
    exact ⟨by omega, by show tx.size ≤ _; omega⟩
end Go.Proofs.YtehmhfbfgniekaaGreatDoor.Wk

namespace Go.Proofs.YtehmhfbfgniekaaGreatDoor.Wk
set_option linter.unusedVariables false
set_option linter.unusedSimpArgs false
open Go Go.RowKit Go.Proofs.YtehmhfbfgniekaaGreatDoorW.PrintWords Go.Proofs.YtehmhfbfgniekaaGreatDoorW.PrintLast Go.Proofs.YtehmhfbfgniekaaGreatDoorW.PrintMore Ob PObBase PObDoc PObGet PObRt PWkB
theorem mn_nat (a : Nat) (b : Int) : mn (a : Int) b = min (a : Int) b := by unfold mn; omega
theorem rdH {l : List Hd} {i : Nat} {x : Hd} (hx : l[i]? = some x) : rd_T49 l (i : Int) = x := by simp [rd_T49, hx]
def Zh (l : List Hd) : Prop := l.length < 900 ∧ ∀ x ∈ l, x.f0.size < 9000 ∧ x.f1.f1.size < 9000
theorem Zh.hsh {l : List Hd} (h : Zh l) : Hsh l := fun x hx => by have := h.2 x hx; exact ⟨by omega, by omega⟩
theorem Zh.len {l : List Hd} (h : Zh l) : l.length ≤ 100000 := by have := h.1; omega
theorem great_l0 (l : List Hd) (hl : l.length < 900) : ∀ (d i : Nat) (n : Int), l.length - i = d → i ≤ l.length → 0 ≤ n → n ≤ 100000 → (n < 9000 → ∀ j x, j < i → l[j]? = some x → x.f0.size < 9000 ∧ x.f1.f1.size < 9000) →
    ∃ b, Ev (fun k => w05_Great.l0 k l n (i : Int)) b ∧ (b = false → Zh l) := by
  intro d
  induction d with
  | zero =>
    intro i n hd hi h0 h1 hs
    have hin : i = l.length := by omega
    subst hin
    refine ⟨decide (n ≥ 9000), Ev.step (f := fun _ => some _) (fun k => ?_) (Ev.now _), fun h => ?_⟩
    · simp only [w05_Great.l0]
      rw [if_neg (by omega)]
    · have h2 := of_decide_eq_false h
      refine ⟨hl, fun x hx => ?_⟩
      obtain ⟨j, hj⟩ := List.getElem?_of_mem hx
      exact hs (by omega) j x (List.getElem?_eq_some_iff.1 hj).1 hj
  | succ d ih =>
    intro i n hd hi h0 h1 hs
    have hil : i < l.length := by omega
    by_cases hn : n < 9000
    · obtain ⟨x, hx⟩ : ∃ x, l[i]? = some x := ⟨_, List.getElem?_eq_getElem hil⟩
      have hrd := rdH hx
      have e1 : wrap64 ((wrap64 (n + mn (x.f0.size : Int) 9000)) + mn (x.f1.f1.size : Int) 9000) = n + min (x.f0.size : Int) 9000 + min (x.f1.f1.size : Int) 9000 := by
        rw [mn_nat, mn_nat, w64 (n + _) (by omega) (by omega), w64 _ (by omega) (by omega)]
      have e2 := wr1 hil (by omega)
      obtain ⟨b, hb, hb2⟩ := ih (i + 1) (n + min (x.f0.size : Int) 9000 + min (x.f1.f1.size : Int) 9000) (by omega) (by omega) (by omega) (by omega) (fun hlt j y hj hy => by
        rcases Nat.lt_succ_iff_lt_or_eq.1 hj with hj | rfl
        · exact hs hn j y hj hy
        · rw [hx] at hy; cases hy; exact ⟨by omega, by omega⟩)
      refine ⟨b, Ev.step (fun k => ?_) hb, hb2⟩
      simp only [w05_Great.l0]
      rw [if_pos (by omega), if_pos hn, if_pos (by omega), hrd, e1, e2]
    · refine ⟨true, Ev.step (f := fun _ => some true) (fun k => ?_) (Ev.now _), fun h => by cases h⟩
      simp only [w05_Great.l0]
      rw [if_pos (by omega), if_neg hn, decide_eq_true (show n ≥ 9000 by omega)]
theorem great_ev (l : List Hd) (hb : l.length ≤ 4000000000000) : ∃ b, Ev (fun k => w05_Great.f k l) b ∧ (b = false → Zh l) := by
  have e : wrap64 (10 * (l.length : Int)) = 10 * (l.length : Int) := w64 _ (by omega) (by omega)
  by_cases hl : l.length < 900
  · obtain ⟨b, h1, h2⟩ := great_l0 l hl l.length 0 (10 * (l.length : Int)) (by omega) (by omega) (by omega) (by omega) (fun _ j x hj => by omega)
    exact ⟨b, Ev.congr (fun k => by rw [w05_Great.f, e]; rfl) h1, h2⟩
  · refine ⟨true, Ev.step (f := fun _ => some true) (fun k => ?_) (Ev.now _), fun h => by cases h⟩
    simp only [w05_Great.f, w05_Great.l0]
    rw [e, if_pos (by omega), if_neg (by omega), decide_eq_true (show 10 * (l.length : Int) ≥ 9000 by omega)]
def Zt (l : List ByteArray) : Prop := l.length ≤ 200 ∧ ∀ x ∈ l, x.size < 9000
theorem Zt.tsh {l : List ByteArray} (h : Zt l) : Tsh l := fun x hx => by have := h.2 x hx; omega
theorem Zt.len {l : List ByteArray} (h : Zt l) : l.length ≤ 1000000 := by have := h.1; omega
theorem gt_l0 (l : List ByteArray) (hl : l.length < 9000) : ∀ (d i : Nat) (n : Int), l.length - i = d → i ≤ l.length → 0 ≤ n → n ≤ 100000 → (n < 9000 → ∀ j x, j < i → l[j]? = some x → x.size < 9000) →
    ∃ b, Ev (fun k => w05_GreatTexts.l0 k l n (i : Int)) b ∧ (b = false → Zt l) := by
  intro d
  induction d with
  | zero =>
    intro i n hd hi h0 h1 hs
    have hin : i = l.length := by omega
    subst hin
    by_cases hn : n ≥ 9000
    · refine ⟨true, Ev.step (f := fun _ => some true) (fun k => ?_) (Ev.now _), fun h => by cases h⟩
      simp only [w05_GreatTexts.l0]
      rw [if_neg (by omega), if_pos hn]
    · refine ⟨decide ((l.length : Int) > 200), Ev.step (f := fun _ => some _) (fun k => ?_) (Ev.now _), fun h => ?_⟩
      · simp only [w05_GreatTexts.l0]
        rw [if_neg (by omega), if_neg hn]
      · have h2 := of_decide_eq_false h
        refine ⟨by omega, fun x hx => ?_⟩
        obtain ⟨j, hj⟩ := List.getElem?_of_mem hx
        exact hs (by omega) j x (List.getElem?_eq_some_iff.1 hj).1 hj
  | succ d ih =>
    intro i n hd hi h0 h1 hs
    have hil : i < l.length := by omega
    by_cases hn : n < 9000
    · obtain ⟨x, hx⟩ : ∃ x, l[i]? = some x := ⟨_, List.getElem?_eq_getElem hil⟩
      have hrd := rdS hx
      have e1 : wrap64 (n + mn (x.size : Int) 9000) = n + min (x.size : Int) 9000 := by
        rw [mn_nat, w64 (n + _) (by omega) (by omega)]
      have e2 := wr1 hil (by omega)
      obtain ⟨b, hb, hb2⟩ := ih (i + 1) (n + min (x.size : Int) 9000) (by omega) (by omega) (by omega) (by omega) (fun hlt j y hj hy => by
        rcases Nat.lt_succ_iff_lt_or_eq.1 hj with hj | rfl
        · exact hs hn j y hj hy
        · rw [hx] at hy; cases hy; omega)
      refine ⟨b, Ev.step (fun k => ?_) hb, hb2⟩
      simp only [w05_GreatTexts.l0]
      rw [if_pos (by omega), if_pos hn, if_pos (by omega), hrd, e1, e2]
    · refine ⟨true, Ev.step (f := fun _ => some true) (fun k => ?_) (Ev.now _), fun h => by cases h⟩
      simp only [w05_GreatTexts.l0]
      rw [if_pos (by omega), if_neg hn, if_pos (by omega)]
theorem gt_ev (l : List ByteArray) : ∃ b, Ev (fun k => w05_GreatTexts.f k l) b ∧ (b = false → Zt l) := by
  by_cases hl : l.length < 9000
  · exact gt_l0 l hl l.length 0 (l.length : Int) (by omega) (by omega) (by omega) (by omega) (fun _ j x hj => by omega)
  · refine ⟨true, Ev.step (f := fun _ => some true) (fun k => ?_) (Ev.now _), fun h => by cases h⟩
    simp only [w05_GreatTexts.f, w05_GreatTexts.l0]
    rw [if_pos (by omega), if_neg (by omega), if_pos (by omega)]
def hasB (l : List ByteArray) (s : ByteArray) : Bool := l.any (fun x => decide (x = s))
theorem hasB_true {l : List ByteArray} {s : ByteArray} : hasB l s = true ↔ s ∈ l := by simp [hasB]
theorem hasB_false {l : List ByteArray} {s : ByteArray} : hasB l s = false ↔ s ∉ l := by rw [← Bool.not_eq_true, hasB_true]
theorem has_l0 (l : List ByteArray) (s : ByteArray) (hm : l.length ≤ 1000000000000) : ∀ (d i : Nat), l.length - i = d → i ≤ l.length → Ev (fun k => r05_Has.l0 k l s (i : Int)) (hasB (l.drop i) s) := by
  intro d
  induction d with
  | zero =>
    intro i hd hi
    rw [List.drop_of_length_le (by omega), show hasB [] s = false from hasB_false.2 (by simp)]
    refine Ev.step (f := fun _ => some false) (fun k => ?_) (Ev.now _)
    simp only [r05_Has.l0]
    rw [if_neg (by omega)]
  | succ d ih =>
    intro i hd hi
    have hil : i < l.length := by omega
    obtain ⟨x, hx⟩ : ∃ x, l[i]? = some x := ⟨_, List.getElem?_eq_getElem hil⟩
    have hw := wr1 hil (by omega)
    by_cases e : x = s
    · rw [drop_at hx, show hasB (x :: l.drop (i + 1)) s = true from hasB_true.2 (by simp [e])]
      refine Ev.step (f := fun _ => some true) (fun k => ?_) (Ev.now _)
      simp only [r05_Has.l0]
      rw [if_pos (by omega), if_pos (by omega), rdS hx, if_pos (by rw [e])]
    · rw [drop_at hx, show hasB (x :: l.drop (i + 1)) s = hasB (l.drop (i + 1)) s by
        cases h : hasB (l.drop (i + 1)) s with
        | true => exact hasB_true.2 (List.mem_cons_of_mem _ (hasB_true.1 h))
        | false => exact hasB_false.2 (fun k => (List.mem_cons.1 k).elim (fun q => e q.symm) (hasB_false.1 h))]
      refine Ev.step (fun k => ?_) (ih (i + 1) (by omega) (by omega))
      simp only [r05_Has.l0]
      rw [if_pos (by omega), if_pos (by omega), rdS hx, if_neg (fun h => e ((toL_inj _ _).1 h)), hw]
theorem has_ev (l : List ByteArray) (s : ByteArray) (hm : l.length ≤ 1000000000000) : Ev (fun k => r05_Has.f k l s) (hasB l s) := has_l0 l s hm l.length 0 (by omega) (by omega)
theorem idx_l0 (l : List ByteArray) (s : ByteArray) (hm : l.length ≤ 1000000000000) : ∀ (d i : Nat), l.length - i = d → i ≤ l.length → ∃ r : Int, Ev (fun k => slices_Index_string_string.l0 k l s (l.length : Int) (i : Int)) r ∧ decide (r ≥ 0) = hasB (l.drop i) s := by
  intro d
  induction d with
  | zero =>
    intro i hd hi
    rw [List.drop_of_length_le (by omega)]
    refine ⟨-1, Ev.step (f := fun _ => some (-1)) (fun k => ?_) (Ev.now _), by rw [show hasB [] s = false from hasB_false.2 (by simp)]; decide⟩
    simp only [slices_Index_string_string.l0]
    rw [if_neg (by omega)]
  | succ d ih =>
    intro i hd hi
    have hil : i < l.length := by omega
    obtain ⟨x, hx⟩ : ∃ x, l[i]? = some x := ⟨_, List.getElem?_eq_getElem hil⟩
    have hw := wr1 hil (by omega)
    by_cases e : x = s
    · refine ⟨(i : Int), Ev.step (f := fun _ => some (i : Int)) (fun k => ?_) (Ev.now _), ?_⟩
      · simp only [slices_Index_string_string.l0]
        rw [if_pos (by omega), if_pos (by omega), if_pos (by omega), rdS hx, if_pos (by rw [e])]
      · rw [drop_at hx, show hasB (x :: l.drop (i + 1)) s = true from hasB_true.2 (by simp [e])]
        exact decide_eq_true (by omega)
    · obtain ⟨r, hr, hr2⟩ := ih (i + 1) (by omega) (by omega)
      refine ⟨r, Ev.step (fun k => ?_) hr, ?_⟩
      · simp only [slices_Index_string_string.l0]
        rw [if_pos (by omega), if_pos (by omega), if_pos (by omega), rdS hx, if_neg (fun h => e ((toL_inj _ _).1 h).symm), hw]
      · rw [hr2, drop_at hx]
        cases h : hasB (l.drop (i + 1)) s with
        | true => exact (hasB_true.2 (List.mem_cons_of_mem _ (hasB_true.1 h))).symm
        | false => exact (hasB_false.2 (fun k => (List.mem_cons.1 k).elim (fun q => e q.symm) (hasB_false.1 h))).symm
theorem contains_ev (l : List ByteArray) (s : ByteArray) (hm : l.length ≤ 1000000000000) : Ev (fun k => slices_Contains_string_string.f k l s) (hasB l s) := by
  obtain ⟨r, hr, hr2⟩ := idx_l0 l s hm l.length 0 (by omega) (by omega)
  rw [List.drop_zero] at hr2
  unfold slices_Contains_string_string.f
  rw [← hr2]
  exact Ev.bind hr (Ev.now _)
def pickL (l : List Hd) (ids : List ByteArray) : List Hd := l.filter (fun x => hasB ids x.f0)
theorem wpick_l0 (l : List Hd) (ids : List ByteArray) (hm : ids.length ≤ 1000000000000) (hl : l.length ≤ 1000000000) : ∀ (d i : Nat) (acc : List Hd), l.length - i = d → i ≤ l.length → acc.length ≤ i → Ev (fun k => walk_Pick.l0 k ids acc l (l.length : Int) (i : Int)) (acc ++ pickL (l.drop i) ids) := by
  intro d
  induction d with
  | zero =>
    intro i acc hd hi ha
    rw [List.drop_of_length_le (by omega), show pickL [] ids = [] from rfl, List.append_nil]
    refine Ev.step (f := fun _ => some acc) (fun k => ?_) (Ev.now _)
    simp only [walk_Pick.l0]
    rw [if_neg (by omega)]
  | succ d ih =>
    intro i acc hd hi ha
    have hil : i < l.length := by omega
    obtain ⟨x, hx⟩ : ∃ x, l[i]? = some x := ⟨_, List.getElem?_eq_getElem hil⟩
    have hw := wr1 hil (by omega)
    cases hb : hasB ids x.f0 with
    | true =>
      have e : acc ++ pickL (l.drop i) ids = (acc ++ [x]) ++ pickL (l.drop (i + 1)) ids := by
        rw [drop_at hx, pickL, List.filter_cons, hb]; simp [pickL]
      rw [e]
      refine Ev.step (f := fun k => (slices_Contains_string_string.f k ids x.f0).bind fun t166 => (if t166 = true then (if acc.length < 3518437208883 then (walk_Pick.l0 k ids (acc ++ [x]) l (l.length : Int) ((i + 1 : Nat) : Int)) else (none)) else (walk_Pick.l0 k ids acc l (l.length : Int) ((i + 1 : Nat) : Int)))) (fun k => ?_) ?_
      · simp only [walk_Pick.l0]
        rw [if_pos (by omega), if_pos (by omega), if_pos (by omega), rdH hx, hw]
      · refine Ev.bind (contains_ev ids x.f0 hm) ?_
        rw [hb]
        exact Ev.congr (fun k => (if_pos rfl).trans (if_pos (by omega))) (ih (i + 1) (acc ++ [x]) (by omega) (by omega) (by rw [List.length_append]; simp; omega))
    | false =>
      have e : acc ++ pickL (l.drop i) ids = acc ++ pickL (l.drop (i + 1)) ids := by
        rw [drop_at hx, pickL, List.filter_cons, hb]; simp [pickL]
      rw [e]
      refine Ev.step (f := fun k => (slices_Contains_string_string.f k ids x.f0).bind fun t166 => (if t166 = true then (if acc.length < 3518437208883 then (walk_Pick.l0 k ids (acc ++ [x]) l (l.length : Int) ((i + 1 : Nat) : Int)) else (none)) else (walk_Pick.l0 k ids acc l (l.length : Int) ((i + 1 : Nat) : Int)))) (fun k => ?_) ?_
      · simp only [walk_Pick.l0]
        rw [if_pos (by omega), if_pos (by omega), if_pos (by omega), rdH hx, hw]
      · refine Ev.bind (contains_ev ids x.f0 hm) ?_
        rw [hb]
        exact Ev.congr (fun k => if_neg (by simp)) (ih (i + 1) acc (by omega) (by omega) (by omega))
theorem pick_ev (l : List Hd) (ids : List ByteArray) (hm : ids.length ≤ 1000000000000) (hl : l.length ≤ 1000000000) : Ev (fun k => walk_Pick.f k l ids) (pickL l ids) := by
  have := wpick_l0 l ids hm hl l.length 0 [] (by omega) (by omega) (by simp)
  rw [List.drop_zero, List.nil_append] at this
  exact this
end Go.Proofs.YtehmhfbfgniekaaGreatDoor.Wk

namespace Go.Proofs.YtehmhfbfgniekaaGreatDoor.Wk
set_option linter.unusedVariables false
set_option linter.unusedSimpArgs false
open Go Go.RowKit Go.Proofs.YtehmhfbfgniekaaGreatDoorW.PrintWords Go.Proofs.YtehmhfbfgniekaaGreatDoorW.PrintLast Go.Proofs.YtehmhfbfgniekaaGreatDoorW.PrintMore Ob PObBase PObDoc PWkB Mp
set_option maxHeartbeats 4000000 in
set_option maxRecDepth 100000 in
theorem rright_b (w : World) : Calls Tryz.prog 35 #[.agg #[.int .i64 1, .string bx1]] w fun e w' => e = .returned (.bool (rightB 1 bx1)) ∧ Below w.heap.size w w' := by
  have hr : rightB 1 bx1 = true := by rw [rightB_1]; rfl
  have hz : bx1.size = 1 := rfl
  rw [hr]
  obtain ⟨d, hd⟩ : ∃ d, bx1 = d := ⟨_, rfl⟩
  rw [hd] at hz ⊢
  obtain ⟨w0, hw0⟩ : ∃ w0, w.alloc (.cells #[.int .i64 1, .string d] 30) = w0 := ⟨_, rfl⟩
  have HB0 : As (Below w.heap.size w w0) := ⟨by rw [← hw0]; exact below_new _ _⟩
  have hnew : w0.heap[w.heap.size]? = some (.cells #[.int .i64 1, .string d] 30 (0, 0)) := by rw [← hw0]; exact blk_new w _
  have hd0 : w0.cell? ⟨w.heap.size, 0, none⟩ = some (.int .i64 1) := (blk_cell hnew 0).trans rfl
  have hd1 : w0.cell? ⟨w.heap.size, 1, none⟩ = some (.string d) := (blk_cell hnew 1).trans rfl
  have h1 : ¬ (d.size : Int) > 65536 := by omega
  clear hnew hr hd
  go_enter Tryz.func35, Tryz.ntmps35
  go_wp2_with (fail)
  go_ret
  exact ⟨rfl, HB0.out⟩
set_option maxHeartbeats 4000000 in
set_option maxRecDepth 100000 in
theorem rright_t (w : World) : Calls Tryz.prog 35 #[.agg #[.int .i64 2, .string tx]] w fun e w' => e = .returned (.bool (rightB 2 tx)) ∧ Below w.heap.size w w' := by
  have hz : tx.size = 68 := by decide +kernel
  obtain ⟨n, hn⟩ := (rgetT_ev tx (by omega)).rounds
  rw [get_t] at hn
  have HG := As.mk (fun w => r04_GetTree.calls n tx _ _ w hn)
  rw [right_t]
  clear hn
  obtain ⟨d, hd⟩ : ∃ d, tx = d := ⟨_, rfl⟩
  rw [hd] at hz HG ⊢
  obtain ⟨w0, hw0⟩ : ∃ w0, w.alloc (.cells #[.int .i64 2, .string d] 30) = w0 := ⟨_, rfl⟩
  have HB0 : As (Below w.heap.size w w0) := ⟨by rw [← hw0]; exact below_new _ _⟩
  have hnew : w0.heap[w.heap.size]? = some (.cells #[.int .i64 2, .string d] 30 (0, 0)) := by rw [← hw0]; exact blk_new w _
  have hd0 : w0.cell? ⟨w.heap.size, 0, none⟩ = some (.int .i64 2) := (blk_cell hnew 0).trans rfl
  have hd1 : w0.cell? ⟨w.heap.size, 1, none⟩ = some (.string d) := (blk_cell hnew 1).trans rfl
  have h1 : ¬ (d.size : Int) > 65536 := by omega
  clear hnew hd
  go_enter Tryz.func35, Tryz.ntmps35
  go_wp2_with (fail)
  refine (HG.out w0).mono ?_
  rintro e w1 ⟨v, rfl, hR, hb⟩
  have HB1 := As.mk (HB0.out.trans (hb.mono HB0.out.size))
  clear hb hR
  go_wp2_with (fail)
  go_ret
  exact ⟨rfl, HB1.out⟩
theorem hb_walk (w : World) : Calls Tryz.prog 28 #[.agg #[.int .i64 1, .string bx1]] w fun e w' => e = .returned (.string hx) ∧ Below w.heap.size w w' := by
  have := rid_of 1 bx1 (by decide) w rright_b
  rwa [id_b] at this
theorem hc_walk (w : World) : Calls Tryz.prog 28 #[.agg #[.int .i64 2, .string tx]] w fun e w' => e = .returned (.string hc) ∧ Below w.heap.size w w' := by
  have := rid_of 2 tx (by decide +kernel) w rright_t
  rwa [id_c] at this
theorem put_walk (W : World) : Calls Tryz.prog 29 #[.slice (some ⟨W.heap.size, 0, none⟩) 1 1] (W.alloc (.cells #[.int .i64 1, .string ⟨#[102]⟩, .string hx] 58)) fun e w' => e = .returned (.tuple #[.string tx, .bool true]) ∧ Below W.heap.size W w' := by
  have hC := new_C k58 58 W (xs := [⟨1, ⟨#[102]⟩, hx⟩]) (inner := [.int .i64 1, .string ⟨#[102]⟩, .string hx]) ((Reps.none _ _).snoc (k58_mk _ (⟨1, ⟨#[102]⟩, hx⟩ : S58)) rfl) (by simp)
  obtain ⟨k, hk⟩ := (rputT_ev [⟨1, ⟨#[102]⟩, hx⟩] (by decide) (fun z hz => by
    obtain rfl := List.mem_singleton.1 hz
    have z1 : hx.size = 64 := by decide +kernel
    exact ⟨by show (⟨#[102]⟩ : ByteArray).size ≤ _; decide, by show hx.size ≤ _; omega⟩)).rounds
  rw [put_t] at hk
  refine (r04_PutTree.calls k _ 1 _ tx true _ hC (Nat.le_refl _) hk).mono ?_
  rintro e w' ⟨rfl, hb⟩
  exact ⟨rfl, (below_new W _).trans (hb.mono (by simp))⟩
theorem setw_walk (W : World) (ht : Tbl W) : Calls Tryz.prog 26 #[.slice (some ⟨W.heap.size, 0, none⟩) 4 4] (W.alloc (.cells #[.int .i64 2, .string tx, .int .i64 1, .string bx1, .int .i64 1, .string bx1, .int .i64 9, .string ⟨#[]⟩] 30)) fun e w' => ∃ v, e = .returned v ∧ Kd.R k49 49 w' W.heap.size (fun _ => True) v L2 ∧ Below W.heap.size W w' := by
  have hC := new_C k30 30 W (xs := [oc1, ob1, ob1, o9]) (inner := [.int .i64 2, .string tx, .int .i64 1, .string bx1, .int .i64 1, .string bx1, .int .i64 9, .string ⟨#[]⟩]) (((((Reps.none _ _).snoc (k30_mk _ oc1) rfl).snoc (k30_mk _ ob1) rfl).snoc (k30_mk _ ob1) rfl).snoc (k30_mk _ o9) rfl) (by simp)
  refine (set_walk _ 4 4 [oc1, ob1, ob1, o9] _ hC rfl (Nat.le_refl _) (fun x hx => ?_) (by decide) (ht.below (below_new W _))).mono ?_
  · have z3 : bx1.size = 1 := rfl
    have z4 : tx.size = 68 := by decide +kernel
    simp only [List.mem_cons, List.not_mem_nil, or_false] at hx
    rcases hx with rfl | rfl | rfl | rfl
    · show tx.size ≤ _; omega
    · show bx1.size ≤ _; omega
    · show bx1.size ≤ _; omega
    · show 0 ≤ _; omega
  · rintro e w' ⟨v, rfl, hR, hb⟩
    exact ⟨v, rfl, Kd.R_lower hR (by simp), (below_new W _).trans (hb.mono (by simp))⟩
theorem one_C (W : World) (s : ByteArray) : Kd.C Kd.string (W.alloc (.cells #[.string s] 9)) (some ⟨W.heap.size, 0, none⟩) 1 [s] :=
  new_C Kd.string 9 W (xs := [s]) (inner := [.string s]) ((Reps.none _ _).snoc rfl rfl) (by simp)
theorem tsh_c : Tsh [hc] := fun s hs => by
  have z2 : hc.size = 64 := by decide +kernel
  rw [List.mem_singleton.1 hs]; omega
theorem clo_hc (W : World) (ht : Tbl W) {A : Option Addr} {c : Nat} {l : List Hd} (hC : Kd.C k49 W A l.length l) (hc' : l.length ≤ c) (hl : Hsh l) (hn : l.length ≤ 100000) :
    Calls Tryz.prog 13 #[.slice A l.length c, .slice (some ⟨W.heap.size, 0, none⟩) 1 1] (W.alloc (.cells #[.string hc] 9)) fun e w' => ∃ v0 v1, e = .returned (.tuple #[v0, v1]) ∧ Kd.R Kd.string 9 w' W.heap.size (fun k => some k ≠ v1.ownBlock) v0 (thereL l [hc]) ∧ Kd.R Kd.string 9 w' W.heap.size (fun k => some k ≠ v0.ownBlock) v1 (lackL l [hc]) ∧ Below W.heap.size W w' := by
  refine (closure_walk A _ c l _ 1 1 [hc] _ (Kd.C_below hC (below_new W _)) rfl hc' (one_C W hc) rfl (Nat.le_refl _) hl tsh_c (by decide) hn (ht.below (below_new W _))).mono ?_
  rintro e w' ⟨v0, v1, rfl, h0, h1, hb⟩
  exact ⟨v0, v1, rfl, Kd.R_lower h0 (by simp), Kd.R_lower h1 (by simp), (below_new W _).trans (hb.mono (by simp))⟩
theorem mem_L2 {x : Hd} (h : x ∈ L2) : x.f0 ∈ [hx, hc] ∧ x.f1 = ((setM [oc1, ob1, ob1, o9]) x.f0).getD z30 := by
  unfold L2 setOf at h
  obtain ⟨s, hs, rfl⟩ := List.mem_map.1 h
  have hr : Rises (fun s => (setM [oc1, ob1, ob1, o9] s).isSome = true) (riseS (fun s => (setM [oc1, ob1, ob1, o9] s).isSome = true)) := rises_of [hx, hc] (fun s => (some_L2 s).symm)
  exact ⟨(some_L2 s).1 ((hr.mem s).1 hs), rfl⟩
theorem pick_L2 : pickL L2 [hc] = L1 := by
  have hnd : (L2.map (·.f0)).Nodup := by
    have hr : Rises (fun s => (setM [oc1, ob1, ob1, o9] s).isSome = true) (riseS (fun s => (setM [oc1, ob1, ob1, o9] s).isSome = true)) := rises_of [hx, hc] (fun s => (some_L2 s).symm)
    unfold L2 setOf
    rw [List.map_map, show ((fun x : Hd => x.f0) ∘ fun s => (⟨s, (setM [oc1, ob1, ob1, o9] s).getD z30⟩ : Hd)) = id from rfl, List.map_id]
    exact hr.nodup
  have hm : (⟨hc, oc1⟩ : Hd) ∈ L2 := by
    have h1 : (fnd L2 hc) = some oc1 := by rw [fnd_L2, if_neg hx_hc.symm, if_pos rfl]
    obtain ⟨x, hx1, hx2, hx3⟩ := fnd_mem h1
    rw [← hx2, ← hx3]; exact hx1
  have hall : ∀ x ∈ pickL L2 [hc], x = ⟨hc, oc1⟩ := fun x hx1 => by
    obtain ⟨h1, h2⟩ := List.mem_filter.1 hx1
    have h3 : x.f0 = hc := by simpa using hasB_true.1 h2
    obtain ⟨_, h4⟩ := mem_L2 h1
    rw [h3, setM4, if_neg hx_hc.symm, if_pos rfl] at h4
    obtain ⟨f0, f1⟩ := x
    simp only at h3 h4
    rw [h3, h4]; rfl
  have hnd2 : ((pickL L2 [hc]).map (·.f0)).Nodup := hnd.sublist ((List.filter_sublist).map _)
  have hin : (⟨hc, oc1⟩ : Hd) ∈ pickL L2 [hc] := List.mem_filter.2 ⟨hm, hasB_true.2 (by simp)⟩
  match hp : pickL L2 [hc], hall, hnd2, hin with
  | [], _, _, h => cases h
  | [x], ha, _, _ => rw [ha x (by simp)]; rfl
  | x :: y :: r, ha, hn, _ =>
    have e1 := ha x (by simp)
    have e2 := ha y (by simp)
    rw [e1, e2] at hn
    simp at hn
theorem pick_walk (W : World) {A : Option Addr} {c : Nat} (hC : Kd.C k49 W A L2.length L2) (hc' : L2.length ≤ c) :
    Calls Tryz.prog 21 #[.slice A L2.length c, .slice (some ⟨W.heap.size, 0, none⟩) 1 1] (W.alloc (.cells #[.string hc] 9)) fun e w' => ∃ v, e = .returned v ∧ Kd.R k49 49 w' W.heap.size (fun _ => True) v L1 ∧ Below W.heap.size W w' := by
  obtain ⟨k, hk⟩ := (pick_ev L2 [hc] (by decide) (by rw [len_L2]; decide)).rounds
  rw [pick_L2] at hk
  refine (walk_Pick.calls k A c L2 _ 1 [hc] L1 _ (Kd.C_below hC (below_new W _)) hc' (one_C W hc) (Nat.le_refl _) hk).mono ?_
  rintro e w' ⟨v, rfl, hR, hb⟩
  exact ⟨v, rfl, Kd.R_lower hR (by simp), (below_new W _).trans (hb.mono (by simp))⟩
end Go.Proofs.YtehmhfbfgniekaaGreatDoor.Wk

namespace Go.Proofs.YtehmhfbfgniekaaGreatDoor.Wk
set_option linter.unusedVariables false
set_option linter.unusedSimpArgs false
open Go Go.RowKit Go.Proofs.YtehmhfbfgniekaaGreatDoorW.PrintWords Go.Proofs.YtehmhfbfgniekaaGreatDoorW.PrintLast Go.Proofs.YtehmhfbfgniekaaGreatDoorW.PrintMore Ob PObBase PObDoc PWkB Mp
set_option maxHeartbeats 16000000 in
set_option maxRecDepth 100000 in
theorem head_walk (w : World) (ht : Tbl w) : Calls Tryz.prog 10 #[] w fun e w' => e = .returned (.bool true) ∧ Below w.heap.size w w' := by
  have HTB : As (∀ w', Below w.heap.size w w' → Tbl w') := ⟨fun w' hb => ht.below hb⟩
  clear ht
  go_enter Tryz.func10, Tryz.ntmps10
  obtain ⟨W, hW⟩ : ∃ W, w.alloc (.cells #[.int .i64 1, .string ⟨#[120]⟩] 30) = W := ⟨_, rfl⟩
  have HBW : As (Below w.heap.size w W) := ⟨by rw [← hW]; exact below_new _ _⟩
  have HTW : As (∀ w', Below W.heap.size W w' → Tbl w') := ⟨fun w' hb => HTB.out _ (HBW.out.trans (hb.mono HBW.out.size))⟩
  have hK1 : W.heap[w.heap.size]? = some (.cells #[.int .i64 1, .string ⟨#[120]⟩] 30 (0, 0)) := by rw [← hW]; exact blk_new w _
  have hs1 : w.heap.size < W.heap.size := by rw [← hW]; simp
  have C0 : As (∀ w', Below W.heap.size W w' → w'.cell? ⟨w.heap.size, 0, none⟩ = some (.int .i64 1)) := ⟨fun w' hb => (hb.cell hs1).trans ((blk_cell hK1 0).trans rfl)⟩
  have C1 : As (∀ w', Below W.heap.size W w' → w'.cell? ⟨w.heap.size, 1, none⟩ = some (.string ⟨#[120]⟩)) := ⟨fun w' hb => (hb.cell hs1).trans ((blk_cell hK1 1).trans rfl)⟩
  have hd0 := C0.out W (Below.refl _ _)
  have hd1 := C1.out W (Below.refl _ _)
  clear hK1 hs1
  go_wp2_with (fail)
  clear hd0 hd1 hW
  refine (hb_walk W).mono ?_
  rintro e w2 ⟨rfl, hb⟩
  have HB2 := As.mk hb
  clear hb
  go_wp2_with (fail)
  refine (put_walk w2).mono ?_
  rintro e w3 ⟨rfl, hb⟩
  have HB3 := As.mk (HB2.out.trans (hb.mono HB2.out.size))
  clear hb
  have hd0 : (w3.alloc (.cells #[.int .i64 2, .string tx] 30)).cell? ⟨w3.heap.size, 0, none⟩ = some (.int .i64 2) := (blk_cell (blk_new w3 _) 0).trans rfl
  have hd1 : (w3.alloc (.cells #[.int .i64 2, .string tx] 30)).cell? ⟨w3.heap.size, 1, none⟩ = some (.string tx) := (blk_cell (blk_new w3 _) 1).trans rfl
  have hw3 := HB3.out.trans (below_new w3 (.cells #[.int .i64 2, .string tx] 30) |>.mono HB3.out.size)
  have hd2 := C0.out _ hw3
  have hd3 := C1.out _ hw3
  go_wp2_with (fail)
  clear hd0 hd1 hd2 hd3
  have hS := setw_walk (w3.alloc (.cells #[.int .i64 2, .string tx] 30)) (HTW.out _ hw3)
  have D0 : As (∀ w', Below (w3.heap.size + 1) (w3.alloc (.cells #[.int .i64 2, .string tx] 30)) w' → w'.cell? ⟨w3.heap.size, 0, none⟩ = some (.int .i64 2)) := ⟨fun w' hb => (hb.cell (Nat.lt_succ_self _)).trans ((blk_cell (blk_new w3 _) 0).trans rfl)⟩
  have D1 : As (∀ w', Below (w3.heap.size + 1) (w3.alloc (.cells #[.int .i64 2, .string tx] 30)) w' → w'.cell? ⟨w3.heap.size, 1, none⟩ = some (.string tx)) := ⟨fun w' hb => (hb.cell (Nat.lt_succ_self _)).trans ((blk_cell (blk_new w3 _) 1).trans rfl)⟩
  rw [World.size_alloc] at hS
  refine hS.mono ?_
  rintro e w5 ⟨v, rfl, hR, hb⟩
  obtain ⟨A5, c5, rfl, hc5, hC5⟩ := Kd.R_reads hR
  have hz : w3.heap.size + 1 ≤ w5.heap.size := by have := hb.size; rwa [World.size_alloc] at this
  have hw5 := hw3.trans (hb.mono (by have := HB3.out.size; omega))
  have HE5 := As.mk hw5
  have HC5 := As.mk hC5
  have HL5 := As.mk hc5
  have E0 : As (∀ w', Below w5.heap.size w5 w' → w'.cell? ⟨w3.heap.size, 0, none⟩ = some (.int .i64 2)) := ⟨fun w' h => D0.out w' (hb.trans (h.mono hz))⟩
  have E1 : As (∀ w', Below w5.heap.size w5 w' → w'.cell? ⟨w3.heap.size, 1, none⟩ = some (.string tx)) := ⟨fun w' h => D1.out w' (hb.trans (h.mono hz))⟩
  clear hS D0 D1 hz hb hw3 hw5 hR hC5 hc5
  have hd0 := E0.out _ (Below.refl _ _)
  have hd1 := E1.out _ (Below.refl _ _)
  go_wp2_with (fail)
  clear hd0 hd1
  refine (hc_walk w5).mono ?_
  rintro e w6 ⟨rfl, hb6⟩
  have HB6 := As.mk hb6
  clear hb6
  go_wp2_with (fail)
  refine (clo_hc w6 (HTW.out _ (HE5.out.trans (HB6.out.mono HE5.out.size))) (Kd.C_below HC5.out HB6.out) HL5.out hsh_L2 (by rw [len_L2]; decide)).mono ?_
  rintro e w7 ⟨v0, v1, rfl, h0, h1, hb⟩
  obtain ⟨A7, c7, rfl, hc7, hC7⟩ := Kd.R_reads h0
  obtain ⟨B7, d7, rfl, hd7, hD7⟩ := Kd.R_reads h1
  have HB7 := As.mk (HB6.out.trans (hb.mono HB6.out.size))
  have HC7 := As.mk hC7
  have HL7 := As.mk hc7
  clear h0 h1 hb hC7 hc7 hd7 hD7
  go_wp2_with (fail)
  refine start_ (n := 14) (S := fun w' => Below (w7).drew.heap.size (w7).drew w') (ds := []) (bl_ 14 0) (by kernel_rfl) rfl rfl (Below.refl _ _) (fun hHeld => ?_)
  refine pv_ 0 38 (bl_ 14 1) ?_
  refine tk_ 1 39 (bl_ 14 3) hHeld (hv := by intro w' s0; have q0 := E0.out w' (RegW.thru HB7.out.drew s0); have q1 := E1.out w' (RegW.thru HB7.out.drew s0); go_simp; with_reducible rfl) (h := ?_)
  refine tk_ 5 43 (bl_ 14 35) hHeld (hv := by intro w' s0; have q0 := E0.out w' (RegW.thru HB7.out.drew s0); have q1 := E1.out w' (RegW.thru HB7.out.drew s0); go_simp; with_reducible rfl) (h := ?_)
  refine one_ (i := 2) (N := some 40) (bl_ 14 39) rfl rfl (by kernel_rfl) (by decide) (fun K hK => ?_)
  refine goes_ Tryz.func28 (by kernel_rfl) rfl #[.agg #[.int .i64 2, .string tx]] (by rfl) rfl rfl (by simp only [List.map_toArray, List.map_cons, List.map_nil]; rfl) ?_
  with_reducible refine (hc_walk _).mono ?_
  rintro e x1 ⟨rfl, hb1⟩
  refine ⟨_, rfl, ?_⟩
  have HX1 := RegW.thru HB7.out.drew hb1
  refine hK.out _ _ (hb1) (fun hHeld => ?_)
  clear hK K
  refine norm_ (a' := ?_) ?_ ?_
  rotate_left
  · show Act.put _ (some 40) _ = _
    simp only [Act.put, List.setIfInBounds_toArray, List.set_cons_zero, List.set_cons_succ, i64_w, i32_w]
    rfl
  refine RegW.change_ hHeld ?_
  clear hHeld
  have hHeld := Below.refl x1.heap.size x1
  refine one_ (i := 3) (N := some 41) (bl_ 14 47) rfl rfl (by kernel_rfl) (by decide) (fun K hK => ?_)
  refine value_ (v := .slice (some ⟨x1.heap.size, 0, none⟩) 1 1) (w1 := x1.alloc (.cells #[.string hc] 9)) rfl rfl ?_ ?_
  · first | (go_simp; done) | (go_simp; with_reducible rfl)
  refine hK.out _ _ (below_new _ _) (fun hHeld => ?_)
  clear hK K
  refine norm_ (a' := ?_) ?_ ?_
  rotate_left
  · show Act.put _ (some 41) _ = _
    simp only [Act.put, List.setIfInBounds_toArray, List.set_cons_zero, List.set_cons_succ, i64_w, i32_w]
    rfl
  refine one_ (i := 4) (N := some 42) (bl_ 14 63) rfl rfl (by kernel_rfl) (by decide) (fun K hK => ?_)
  refine goes_ Tryz.func21 (by kernel_rfl) rfl #[.slice A5 L2.length c5, .slice (some ⟨x1.heap.size, 0, none⟩) 1 1] (by rfl) rfl rfl (by simp only [List.map_toArray, List.map_cons, List.map_nil]; rfl) ?_
  with_reducible refine (pick_walk x1 (Kd.C_below HC5.out HX1) HL5.out).mono ?_
  rintro e x3 ⟨v3, rfl, hR3, hb3⟩
  refine ⟨_, rfl, ?_⟩
  obtain ⟨A8, c8, rfl, hc8, hC8⟩ := Kd.R_reads hR3
  have HX3 := RegW.thru HX1 hb3
  refine hK.out _ _ (hb3) (fun hHeld => ?_)
  clear hK K
  refine norm_ (a' := ?_) ?_ ?_
  rotate_left
  · show Act.put _ (some 42) _ = _
    simp only [Act.put, List.setIfInBounds_toArray, List.set_cons_zero, List.set_cons_succ, i64_w, i32_w]
    rfl
  refine RegW.change_ hHeld ?_
  clear hHeld
  have hHeld := Below.refl x3.heap.size x3
  refine one_ (i := 6) (N := some 44) (bl_ 14 127) rfl rfl (by kernel_rfl) (by decide) (fun K hK => ?_)
  refine goes_ Tryz.func28 (by kernel_rfl) rfl #[.agg #[.int .i64 2, .string tx]] (by rfl) rfl rfl (by simp only [List.map_toArray, List.map_cons, List.map_nil]; rfl) ?_
  with_reducible refine (hc_walk _).mono ?_
  rintro e x4 ⟨rfl, hb4⟩
  refine ⟨_, rfl, ?_⟩
  have HX4 := RegW.thru HX3 hb4
  refine hK.out _ _ (hb4) (fun hHeld => ?_)
  clear hK K
  refine norm_ (a' := ?_) ?_ ?_
  rotate_left
  · show Act.put _ (some 44) _ = _
    simp only [Act.put, List.setIfInBounds_toArray, List.set_cons_zero, List.set_cons_succ, i64_w, i32_w]
    rfl
  refine RegW.change_ hHeld ?_
  clear hHeld
  have hHeld := Below.refl x4.heap.size x4
  refine one_ (i := 7) (N := some 45) (bl_ 14 255) rfl rfl (by kernel_rfl) (by decide) (fun K hK => ?_)
  refine value_ (v := .slice (some ⟨x4.heap.size, 0, none⟩) 1 1) (w1 := x4.alloc (.cells #[.string hc] 9)) rfl rfl ?_ ?_
  · first | (go_simp; done) | (go_simp; with_reducible rfl)
  refine hK.out _ _ (below_new _ _) (fun hHeld => ?_)
  clear hK K
  refine norm_ (a' := ?_) ?_ ?_
  rotate_left
  · show Act.put _ (some 45) _ = _
    simp only [Act.put, List.setIfInBounds_toArray, List.set_cons_zero, List.set_cons_succ, i64_w, i32_w]
    rfl
  refine one_ (i := 8) (N := some 46) (bl_ 14 511) rfl rfl (by kernel_rfl) (by decide) (fun K hK => ?_)
  refine goes_ Tryz.func13 (by kernel_rfl) rfl #[.slice A8 L1.length c8, .slice (some ⟨x4.heap.size, 0, none⟩) 1 1] (by rfl) rfl rfl (by simp only [List.map_toArray, List.map_cons, List.map_nil]; rfl) ?_
  with_reducible refine (clo_hc x4 (HTW.out _ (HE5.out.trans (HX4.mono HE5.out.size))) (Kd.C_below hC8 hb4) hc8 hsh_L1 (by decide)).mono ?_
  rintro e x6 ⟨v0, v1, rfl, h0, h1, hb6⟩
  refine ⟨_, rfl, ?_⟩
  obtain ⟨A9, c9, rfl, hc9, hC9⟩ := Kd.R_reads h0
  obtain ⟨B9, d9, rfl, hd9, hD9⟩ := Kd.R_reads h1
  have HX6 := RegW.thru HX4 hb6
  refine hK.out _ _ (hb6) (fun hHeld => ?_)
  clear hK K
  refine norm_ (a' := ?_) ?_ ?_
  rotate_left
  · show Act.put _ (some 46) _ = _
    simp only [Act.put, List.setIfInBounds_toArray, List.set_cons_zero, List.set_cons_succ, i64_w, i32_w]
    rfl
  refine RegW.change_ hHeld ?_
  clear hHeld
  have hHeld := Below.refl x6.heap.size x6
  refine pv_ 9 37 (bl_ 14 1023) ?_
  refine pv_ 10 47 (bl_ 14 2047) ?_
  refine pv_ 11 48 (bl_ 14 4095) ?_
  refine pv_ 12 8 (bl_ 14 8191) ?_
  refine pv_ 13 9 (bl_ 14 16383) ?_
  refine done_ (by kernel_rfl) ?_
  have HX := As.mk HX6
  have hZ : Below w7.heap.size w7 x6 := RegW.thru (RegW.thru (RegW.thru (RegW.thru (Below.refl _ w7).drew hb1) hb3) hb4) hb6
  have HZ := As.mk hZ
  have hD := hD9
  rw [lack_1] at hD
  have HD9 : As (Kd.C Kd.string x6 B9 1 [hx]) := ⟨hD⟩
  clear hD hHeld hb1 hb3 hb4 hb6 HX1 HX3 HX4 HX6 hC8 hc8 hR3 hC9 hc9 hD9 hd9 h0 h1
  rw [len_there, lack_none, there_1, lack_1]
  have HY := As.mk (HE5.out.trans (HX.out.mono HE5.out.size))
  have hd0 := C0.out _ HY.out
  have hd1 := C1.out _ HY.out
  go_wp2_with (fail)
  clear hd0 hd1
  refine (hb_walk x6).mono ?_
  rintro e y1 ⟨rfl, hb⟩
  have HY1 := As.mk hb
  clear hb
  go_wp2_with (fail)
  refine (find_walk A5 L2.length c5 L2 hx y1 (Kd.C_below HC5.out (HX.out.trans (HY1.out.mono HX.out.size))) rfl HL5.out hsh_L2 (by rw [len_L2]; decide) (by decide +kernel)).mono ?_
  rintro e y2 ⟨rfl, hb⟩
  rw [fnd_L2, if_pos rfl]
  simp only [Option.getD_some, Option.isSome_some, show ob1.f0 = 1 from rfl, show ob1.f1 = (⟨#[120]⟩ : ByteArray) from rfl]
  have HY2 := As.mk (HY1.out.trans (hb.mono HY1.out.size))
  clear hb
  go_wp2_with (fail)
  obtain ⟨w9, h9⟩ : ∃ w9, y2.alloc (.cells #[.int .i64 1, .string ⟨#[120]⟩] 30) = w9 := ⟨_, rfl⟩
  rw [h9, len_L2]
  have hb9 : Below y2.heap.size y2 w9 := by rw [← h9]; exact below_new _ _
  have hK9 : w9.heap[y2.heap.size]? = some (.cells #[.int .i64 1, .string ⟨#[120]⟩] 30 (0, 0)) := by rw [← h9]; exact blk_new y2 _
  have hs9 : y2.heap.size < w9.heap.size := by rw [← h9]; simp
  have F0 : As (∀ w', Below w9.heap.size w9 w' → w'.cell? ⟨y2.heap.size, 0, none⟩ = some (.int .i64 1)) := ⟨fun w' hb => (hb.cell hs9).trans ((blk_cell hK9 0).trans rfl)⟩
  have F1 : As (∀ w', Below w9.heap.size w9 w' → w'.cell? ⟨y2.heap.size, 1, none⟩ = some (.string ⟨#[120]⟩)) := ⟨fun w' hb => (hb.cell hs9).trans ((blk_cell hK9 1).trans rfl)⟩
  have hx9 : Below x6.heap.size x6 w9 := HY2.out.trans (hb9.mono HY2.out.size)
  have h59 : Below w5.heap.size w5 w9 := HX.out.trans (hx9.mono HX.out.size)
  have h79 : Below w7.heap.size w7 w9 := HZ.out.trans (hx9.mono HZ.out.size)
  have HW9 : As (Below W.heap.size W w9) := ⟨HE5.out.trans (h59.mono HE5.out.size)⟩
  have G0 : As (∀ w', Below w9.heap.size w9 w' → w'.cell? ⟨w.heap.size, 0, none⟩ = some (.int .i64 1)) := ⟨fun w' hb => C0.out w' (RegW.thru HW9.out hb)⟩
  have G1 : As (∀ w', Below w9.heap.size w9 w' → w'.cell? ⟨w.heap.size, 1, none⟩ = some (.string ⟨#[120]⟩)) := ⟨fun w' hb => C1.out w' (RegW.thru HW9.out hb)⟩
  have HT9 : As (∀ w', Below w9.heap.size w9 w' → Tbl w') := ⟨fun w' hb => HTW.out w' (RegW.thru HW9.out hb)⟩
  have hD := Kd.C_below HD9.out hx9
  have hC5 := Kd.C_below HC5.out h59
  have hC7 := Kd.C_below HC7.out h79
  have hc5 := HL5.out
  have hc7 := HL7.out
  rw [len_L2] at hC5 hc5
  rw [len_there] at hC7 hc7
  obtain ⟨ad, rfl, _⟩ := at_txt hD 0 (by omega) (by show (0 : Int) < 1; decide)
  have H9 : As (∀ w', Below w9.heap.size w9 w' → w'.cell? ad = some (.string hx)) := ⟨fun w' hb => by
    obtain ⟨ad', e, hk⟩ := at_txt (Kd.C_below hD hb) 0 (by omega) (by show (0 : Int) < 1; decide)
    obtain rfl := Option.some.inj e
    have h0 : ad.add (0 : Int).toNat = ad := by cases ad; rfl
    rw [h0] at hk
    exact hk⟩
  have tsh : Tsh (thereL L2 [hc]) := fun s hs => by
    have z1 : hx.size = 64 := by decide +kernel
    have z2 : hc.size = 64 := by decide +kernel
    rcases List.mem_cons.1 ((reach_c s).1 (there_mem.1 hs).1) with rfl | h
    · show hx.size ≤ _; omega
    · rw [List.mem_singleton.1 h]; show hc.size ≤ _; omega
  have S0 : As (∀ w', Below w9.heap.size w9 w' → Calls Tryz.prog 18 #[.slice A5 2 c5, .slice A7 2 c7] w' fun e w'' => e = .returned (.int .i64 0) ∧ Below w'.heap.size w' w'') := ⟨fun w' hb => by
    have h := sound_walk A5 2 c5 L2 A7 2 c7 (thereL L2 [hc]) w' (Kd.C_below hC5 hb) len_L2 hc5 (Kd.C_below hC7 hb) len_there hc7 hsh_L2 tsh (by rw [len_there]; decide) (by rw [len_L2]; decide) (HT9.out _ hb)
    rwa [sound_L2] at h⟩
  have S1 : As (∀ w', Below w9.heap.size w9 w' → Calls Tryz.prog 18 #[.slice none 0 0, .slice A7 2 c7] w' fun e w'' => e = .returned (.int .i64 51) ∧ Below w'.heap.size w' w'') := ⟨fun w' hb => by
    have h := sound_walk none 0 0 [] A7 2 c7 (thereL L2 [hc]) w' (Kd.C_nil _ _) rfl (Nat.le_refl _) (Kd.C_below hC7 hb) len_there hc7 (fun x hx => nomatch hx) tsh (by rw [len_there]; decide) (by decide) (HT9.out _ hb)
    rwa [sound_nil] at h⟩
  have J0 : As (∀ w', Below w9.heap.size w9 w' → Calls Tryz.prog 25 #[.slice A5 2 c5, .slice A5 2 c5] w' fun e w'' => ∃ A c, e = .returned (.slice A 2 c) ∧ Below w'.heap.size w' w'') := ⟨fun w' hb => by
    refine (join_walk A5 2 c5 L2 A5 2 c5 L2 w' (Kd.C_below hC5 hb) len_L2 hc5 (Kd.C_below hC5 hb) len_L2 hc5 hsh_L2 hsh_L2 (by rw [len_L2]; decide)).mono ?_
    rintro e w'' ⟨v, rfl, hR, hb'⟩
    obtain ⟨A, c, rfl, _, _⟩ := Kd.R_reads hR
    rw [join_L2]
    exact ⟨A, c, rfl, hb'⟩⟩
  have HI : As (∀ w', Calls Tryz.prog 28 #[.agg #[.int .i64 1, .string ⟨#[120]⟩]] w' fun e w'' => e = .returned (.string hx) ∧ Below w'.heap.size w' w'') := ⟨hb_walk⟩
  have HBw := As.mk (HBW.out.trans (HW9.out.mono HBW.out.size))
  clear hb9 hK9 hs9 hx9 h59 h79 hD hC5 hC7 hc5 hc7 tsh HX HD9 HY HY1 HY2 h9 HB7 HC7 HL7 E0 E1 HC5 HL5 C0 C1 HTW HB6 HE5 HB3 HB2
  refine start_ (n := 58) (S := fun w' => Below (w9).drew.heap.size (w9).drew w') (ds := []) (bl_ 58 0) (by kernel_rfl) rfl rfl (Below.refl _ _) (fun hHeld => ?_)
  refine pv_ 0 56 (bl_ 58 1) ?_
  refine pv_ 1 57 (bl_ 58 3) ?_
  refine pv_ 2 58 (bl_ 58 7) ?_
  refine pv_ 3 59 (bl_ 58 15) ?_
  refine pv_ 4 60 (bl_ 58 31) ?_
  refine pv_ 5 61 (bl_ 58 63) ?_
  refine pv_ 6 62 (bl_ 58 127) ?_
  refine pv_ 7 63 (bl_ 58 255) ?_
  refine pv_ 8 64 (bl_ 58 511) ?_
  refine pv_ 9 65 (bl_ 58 1023) ?_
  refine pv_ 10 66 (bl_ 58 2047) ?_
  refine pv_ 11 67 (bl_ 58 4095) ?_
  refine pv_ 12 68 (bl_ 58 8191) ?_
  refine pv_ 13 69 (bl_ 58 16383) ?_
  refine pv_ 14 70 (bl_ 58 32767) ?_
  refine pv_ 15 71 (bl_ 58 65535) ?_
  refine pv_ 16 72 (bl_ 58 131071) ?_
  refine pv_ 17 73 (bl_ 58 262143) ?_
  refine pv_ 18 74 (bl_ 58 524287) ?_
  refine pv_ 19 75 (bl_ 58 1048575) ?_
  refine pv_ 20 76 (bl_ 58 2097151) ?_
  refine pv_ 21 77 (bl_ 58 4194303) ?_
  refine pv_ 22 78 (bl_ 58 8388607) ?_
  refine pv_ 23 79 (bl_ 58 16777215) ?_
  refine pv_ 24 80 (bl_ 58 33554431) ?_
  refine pv_ 25 81 (bl_ 58 67108863) ?_
  refine tk_ 26 82 (bl_ 58 134217727) hHeld (hv := by intro w' s0; have q0 := H9.out w' (RegW.thru (Below.refl _ w9).drew s0); go_simp; with_reducible rfl) (h := ?_)
  refine tk_ 27 83 (bl_ 58 268435455) hHeld (hv := by intro w' s0; have q0 := G0.out w' (RegW.thru (Below.refl _ w9).drew s0); have q1 := G1.out w' (RegW.thru (Below.refl _ w9).drew s0); go_simp; with_reducible rfl) (h := ?_)
  refine one_ (i := 28) (N := some 84) (bl_ 58 536870911) rfl rfl (by kernel_rfl) (by decide) (fun K hK => ?_)
  refine goes_ Tryz.func28 (by kernel_rfl) rfl #[.agg #[.int .i64 1, .string ⟨#[120]⟩]] (by rfl) rfl rfl (by simp only [List.map_toArray, List.map_cons, List.map_nil]; rfl) ?_
  with_reducible refine (HI.out _).mono ?_
  rintro e x1 ⟨rfl, hb1⟩
  refine ⟨_, rfl, ?_⟩
  have HX1 := RegW.thru (Below.refl _ w9).drew hb1
  refine hK.out _ _ (hb1) (fun hHeld => ?_)
  clear hK K
  refine norm_ (a' := ?_) ?_ ?_
  rotate_left
  · show Act.put _ (some 84) _ = _
    simp only [Act.put, List.setIfInBounds_toArray, List.set_cons_zero, List.set_cons_succ, i64_w, i32_w]
    rfl
  refine RegW.change_ hHeld ?_
  clear hHeld
  have hHeld := Below.refl x1.heap.size x1
  refine pv_ 29 85 (bl_ 58 1073741823) ?_
  refine pv_ 30 86 (bl_ 58 2147483647) ?_
  refine pv_ 31 87 (bl_ 58 4294967295) ?_
  refine pv_ 32 88 (bl_ 58 8589934591) ?_
  refine pv_ 33 89 (bl_ 58 17179869183) ?_
  refine pv_ 34 90 (bl_ 58 34359738367) ?_
  refine tk_ 35 91 (bl_ 58 68719476735) hHeld (hv := by intro w' s0; have q0 := F0.out w' (RegW.thru HX1 s0); have q1 := F1.out w' (RegW.thru HX1 s0); go_simp; with_reducible rfl) (h := ?_)
  refine tk_ 36 92 (bl_ 58 137438953471) hHeld (hv := by intro w' s0; have q0 := G0.out w' (RegW.thru HX1 s0); have q1 := G1.out w' (RegW.thru HX1 s0); go_simp; with_reducible rfl) (h := ?_)
  refine pv_ 37 93 (bl_ 58 274877906943) ?_
  refine pv_ 38 94 (bl_ 58 549755813887) ?_
  refine pv_ 39 95 (bl_ 58 1099511627775) ?_
  refine pv_ 40 96 (bl_ 58 2199023255551) ?_
  refine pv_ 41 97 (bl_ 58 4398046511103) ?_
  refine one_ (i := 42) (N := some 98) (bl_ 58 8796093022207) rfl rfl (by kernel_rfl) (by decide) (fun K hK => ?_)
  refine goes_ Tryz.func18 (by kernel_rfl) rfl #[.slice A5 2 c5, .slice A7 2 c7] (by rfl) rfl rfl (by simp only [List.map_toArray, List.map_cons, List.map_nil]; rfl) ?_
  with_reducible refine (S0.out _ HX1).mono ?_
  rintro e x2 ⟨rfl, hb2⟩
  refine ⟨_, rfl, ?_⟩
  have HX2 := RegW.thru HX1 hb2
  refine hK.out _ _ (hb2) (fun hHeld => ?_)
  clear hK K
  refine norm_ (a' := ?_) ?_ ?_
  rotate_left
  · show Act.put _ (some 98) _ = _
    simp only [Act.put, List.setIfInBounds_toArray, List.set_cons_zero, List.set_cons_succ, i64_w, i32_w]
    rfl
  refine RegW.change_ hHeld ?_
  clear hHeld
  have hHeld := Below.refl x2.heap.size x2
  refine pv_ 43 99 (bl_ 58 17592186044415) ?_
  refine pv_ 44 100 (bl_ 58 35184372088831) ?_
  refine pv_ 45 101 (bl_ 58 70368744177663) ?_
  refine pv_ 46 102 (bl_ 58 140737488355327) ?_
  refine one_ (i := 47) (N := some 103) (bl_ 58 281474976710655) rfl rfl (by kernel_rfl) (by decide) (fun K hK => ?_)
  refine goes_ Tryz.func18 (by kernel_rfl) rfl #[.slice none 0 0, .slice A7 2 c7] (by rfl) rfl rfl (by simp only [List.map_toArray, List.map_cons, List.map_nil]; rfl) ?_
  with_reducible refine (S1.out _ HX2).mono ?_
  rintro e x3 ⟨rfl, hb3⟩
  refine ⟨_, rfl, ?_⟩
  have HX3 := RegW.thru HX2 hb3
  refine hK.out _ _ (hb3) (fun hHeld => ?_)
  clear hK K
  refine norm_ (a' := ?_) ?_ ?_
  rotate_left
  · show Act.put _ (some 103) _ = _
    simp only [Act.put, List.setIfInBounds_toArray, List.set_cons_zero, List.set_cons_succ, i64_w, i32_w]
    rfl
  refine RegW.change_ hHeld ?_
  clear hHeld
  have hHeld := Below.refl x3.heap.size x3
  refine pv_ 48 104 (bl_ 58 562949953421311) ?_
  refine pv_ 49 105 (bl_ 58 1125899906842623) ?_
  refine pv_ 50 106 (bl_ 58 2251799813685247) ?_
  refine pv_ 51 107 (bl_ 58 4503599627370495) ?_
  refine pv_ 52 108 (bl_ 58 9007199254740991) ?_
  refine one_ (i := 53) (N := some 109) (bl_ 58 18014398509481983) rfl rfl (by kernel_rfl) (by decide) (fun K hK => ?_)
  refine goes_ Tryz.func25 (by kernel_rfl) rfl #[.slice A5 2 c5, .slice A5 2 c5] (by rfl) rfl rfl (by simp only [List.map_toArray, List.map_cons, List.map_nil]; rfl) ?_
  with_reducible refine (J0.out _ HX3).mono ?_
  rintro e x4 ⟨AJ, cJ, rfl, hb4⟩
  refine ⟨_, rfl, ?_⟩
  have HX4 := RegW.thru HX3 hb4
  refine hK.out _ _ (hb4) (fun hHeld => ?_)
  clear hK K
  refine norm_ (a' := ?_) ?_ ?_
  rotate_left
  · show Act.put _ (some 109) _ = _
    simp only [Act.put, List.setIfInBounds_toArray, List.set_cons_zero, List.set_cons_succ, i64_w, i32_w]
    rfl
  refine RegW.change_ hHeld ?_
  clear hHeld
  have hHeld := Below.refl x4.heap.size x4
  refine pv_ 54 110 (bl_ 58 36028797018963967) ?_
  refine pv_ 55 111 (bl_ 58 72057594037927935) ?_
  refine pv_ 56 112 (bl_ 58 144115188075855871) ?_
  refine pv_ 57 0 (bl_ 58 288230376151711743) ?_
  refine done_ (by kernel_rfl) ?_
  have HBz := As.mk (HBw.out.trans (HX4.mono HBw.out.size))
  clear hHeld HX1 HX2 HX3 HX4 hb1 hb2 hb3 hb4
  go_wp2_with (fail)
  go_ret
  exact ⟨rfl, HBz.out⟩
end Go.Proofs.YtehmhfbfgniekaaGreatDoor.Wk

namespace Go.Proofs.YtehmhfbfgniekaaGreatDoor.Wk
open Go Go.RowKit Go.Proofs.YtehmhfbfgniekaaGreatDoorW.PrintWords Go.Proofs.YtehmhfbfgniekaaGreatDoorW.PrintLast Go.Proofs.YtehmhfbfgniekaaGreatDoorW.PrintMore Ob
namespace Gv
def head.f : Option Bool := some true
theorem head.calls (r : Bool) (w : World) (h : head.f = some r) (ht : Tbl w) : Calls Tryz.prog 10 #[] w fun e w' => e = .returned (.bool r) ∧ Below w.heap.size w w' := by
  obtain rfl := Option.some.inj (h : some true = some r)
  exact head_walk w ht
end Gv
end Go.Proofs.YtehmhfbfgniekaaGreatDoor.Wk

namespace Go.Proofs.YtehmhfbfgniekaaGreatDoor.PWalkLess
open Go.Proofs.YtehmhfbfgniekaaGreatDoor.PObBase Go.Proofs.YtehmhfbfgniekaaGreatDoor.PObDoc Go.Proofs.YtehmhfbfgniekaaGreatDoor.PObGet Go.Proofs.YtehmhfbfgniekaaGreatDoor.PObRt Go.Proofs.YtehmhfbfgniekaaGreatDoor.PWkB
open Go.RowKit Go.Proofs.YtehmhfbfgniekaaGreatDoorW.PrintWords Go.Proofs.YtehmhfbfgniekaaGreatDoorW.PrintLast Go.Proofs.YtehmhfbfgniekaaGreatDoorW.PrintMore
attribute [local go_sem] StrSem.leq_str StrSem.geq_str StrSem.gtr_str StrSem.leq_str StrSem.geq_str StrSem.gtr_str max2_int min2_int max_two min_two max_three min_three max_four min_four   -- for this text's walks alone
set_option linter.unusedVariables false
set_option linter.unusedSimpArgs false
def errW : Option Int → Value
 | none => .nilIface
 | some c => .iface 0 (.int .i64 c)
theorem errW_none : errW none = .nilIface := rfl
theorem errW_some (c : Int) : errW (some c) = .iface 0 (.int .i64 c) := rfl
theorem info49 : (Tryz.prog.info? 49).map (fun i => (i.zero, i.size, i.bytes)) = some (some (.agg #[(.string ⟨#[]⟩), (.int .i64 0), (.string ⟨#[]⟩)]), 3, 40) := by kernel_rfl
end Go.Proofs.YtehmhfbfgniekaaGreatDoor.PWalkLess

namespace Go.Proofs.YtehmhfbfgniekaaGreatDoor.PWalkLess
open Go.Proofs.YtehmhfbfgniekaaGreatDoor.PObBase Go.Proofs.YtehmhfbfgniekaaGreatDoor.PObDoc Go.Proofs.YtehmhfbfgniekaaGreatDoor.PObGet Go.Proofs.YtehmhfbfgniekaaGreatDoor.PObRt Go.Proofs.YtehmhfbfgniekaaGreatDoor.PWkB
open Go.RowKit Go.Proofs.YtehmhfbfgniekaaGreatDoorW.PrintWords Go.Proofs.YtehmhfbfgniekaaGreatDoorW.PrintLast Go.Proofs.YtehmhfbfgniekaaGreatDoorW.PrintMore
attribute [local go_sem] StrSem.leq_str StrSem.geq_str StrSem.gtr_str StrSem.leq_str StrSem.geq_str StrSem.gtr_str max2_int min2_int max_two min_two max_three min_three max_four min_four   -- for this text's walks alone
set_option linter.unusedVariables false
set_option linter.unusedSimpArgs false
theorem o8_ {p : Prop} (h : p := by (with_reducible repeat (first | apply Kd.R_alloc | apply Kd.R_drewN | apply Kd.R_drew)); exact HO_13.out) : p := h
theorem o9_ {p : Prop} (h : p := by (with_reducible repeat (first | apply Kd.R_alloc | apply Kd.R_drewN | apply Kd.R_drew)); exact HO109.out) : p := h
theorem o10_ {p : Prop} (h : p := by (with_reducible repeat (first | apply Kd.R_alloc | apply Kd.R_drewN | apply Kd.R_drew)); exact HO107.out) : p := h
theorem o11_ {p : Prop} (h : p := by (with_reducible repeat (first | apply Kd.R_alloc | apply Kd.R_drewN | apply Kd.R_drew)); exact HO_8.out) : p := h
mutual
noncomputable def w05_WalkLess.j0 : Nat → List (S49) → List ByteArray → Int → Bool → Bool → Option (Bool)
 | 0, _, _, _, _, _ => none
 | k + 1, x0, x1, x2, x7, x23 => if x23 = true then (some x7) else ((Wk.Gv.closure.f x0 x1).bind fun bt104 => ((PWkB.walk_Pick.f k x0 bt104.1).bind fun t110 => ((Wk.Gv.closure.f t110 x1).bind fun bt113 => ((PObBase.r04_SameTexts.f k bt104.1 bt113.1).bind fun t119 => (if t119 = true then ((PObBase.r04_SameTexts.f k bt104.2 bt113.2).bind fun t120 => (w05_WalkLess.j1 k x0 x1 x2 x7 bt104.1 (!t120))) else (w05_WalkLess.j1 k x0 x1 x2 x7 bt104.1 true))))))
noncomputable def w05_WalkLess.j1 : Nat → List (S49) → List ByteArray → Int → Bool → List ByteArray → Bool → Option (Bool)
 | 0, _, _, _, _, _, _ => none
 | k + 1, x0, x1, x2, x7, x8, x48 => if x48 = true then (some false) else (if (x8.length : Int) = 0 then (some x7) else (w05_WalkLess.l0 k x0 x1 x7 x8 (Int.tmod (wrap64 (x2)) (x8.length : Int)) ([] : List (S49)) 0))
noncomputable def w05_WalkLess.l0 : Nat → List (S49) → List ByteArray → Bool → List ByteArray → Int → List (S49) → Int → Option (Bool)
 | 0, _, _, _, _, _, _, _ => none
 | k + 1, x0, x1, x7, x8, x12, x13, x14 => if x14 < (x0.length : Int) then (if 0 ≤ x14 then (if 0 ≤ x12 then (if x12 < (x8.length : Int) then (if ((rd_T49 x0 x14).f0).toList = (rdOf ByteArray.empty x8 x12).toList then (w05_WalkLess.l0 k x0 x1 x7 x8 x12 x13 (wrap64 (x14 + 1))) else (if x13.length < 3518437208883 then (w05_WalkLess.l0 k x0 x1 x7 x8 x12 (x13 ++ [(⟨(rd_T49 x0 x14).f0, (⟨(rd_T49 x0 x14).f1.f0, (rd_T49 x0 x14).f1.f1⟩ : S30)⟩ : S49)]) (wrap64 (x14 + 1))) else (none))) else (none)) else (none)) else (none)) else ((Wk.Gv.closure.f x13 x1).bind fun bt127 => (if x7 = true then (if 0 ≤ x12 then (if x12 < (x8.length : Int) then ((PWkB.r05_Has.f k bt127.2 (rdOf ByteArray.empty x8 x12)).bind fun t134 => (if t134 = true then ((PWkB.r05_Has.f k bt127.1 (rdOf ByteArray.empty x8 x12)).bind fun t136 => (if t136 = true then (some false) else (some (decide ((bt127.1.length : Int) < (x8.length : Int)))))) else (some false))) else (none)) else (none)) else (some false)))
end
noncomputable def w05_WalkLess.f (k : Nat) (l0 : List (S49)) (l1 : List ByteArray) (a2 : Int) : Option (Bool) := (Wk.Gv.head.f).bind fun t101 => ((PWkB.w05_Great.f k l0).bind fun t102 => (if t102 = true then (w05_WalkLess.j0 k l0 l1 a2 t101 true) else ((PWkB.w05_GreatTexts.f k l1).bind fun t103 => (w05_WalkLess.j0 k l0 l1 a2 t101 t103))))
set_option maxHeartbeats 8000000 in
set_option maxRecDepth 100000 in
theorem w05_WalkLess.calls (k : Nat) (A0 : Option Addr) (c0 : Nat) (l0 : List (S49)) (A1 : Option Addr) (c1 : Nat) (l1 : List ByteArray) (a2 : Int) (r : Bool) (w : World) (hr0 : Kd.C k49 w A0 l0.length l0) (hc0 : l0.length ≤ c0) (hr1 : Kd.C Kd.string w A1 l1.length l1) (hc1 : l1.length ≤ c1) (h : w05_WalkLess.f k l0 l1 a2 = some r) (ht_ : Lib.TabIs Tryz.prog w "internal/strconv.uint64pow10" .u64 Lib.pow10Tab) :
  Calls Tryz.prog 8 #[.slice A0 l0.length c0, .slice A1 l1.length c1, .int .u8 a2] w fun e w' => e = .returned (.bool r) ∧ Below w.heap.size w w' := by
 have HTAB_ : Aside0 (∀ w_ : World, Below w.heap.size w w_ → Lib.TabIs Tryz.prog w_ "internal/strconv.uint64pow10" .u64 Lib.pow10Tab) := Aside0.mk (fun w_ hb_ => Lib.tabBelow_of_tabIs ht_ w_ hb_)
 clear ht_
 have hu49 := Tryz.underlying49
 have HR0 := Aside0.mk hr0
 have HC0 := Aside0.mk hc0
 clear hr0 hc0
 have HR1 := Aside0.mk hr1
 have HC1 := Aside0.mk hc1
 clear hr1 hc1
 have HB := Aside0.mk (Below.refl w.heap.size w)
 have H : ((Wk.Gv.head.f).bind fun t101 => ((PWkB.w05_Great.f k l0).bind fun t102 => (if t102 = true then (w05_WalkLess.j0 k l0 l1 a2 t101 true) else ((PWkB.w05_GreatTexts.f k l1).bind fun t103 => (w05_WalkLess.j0 k l0 l1 a2 t101 t103))))) = some r := h
 clear h
 replace H := Option.bind_eq_some_iff.mp H
 obtain ⟨t101, A40, H⟩ := H
 replace H : ((PWkB.w05_Great.f k l0).bind fun t102 => (if t102 = true then (w05_WalkLess.j0 k l0 l1 a2 t101 true) else ((PWkB.w05_GreatTexts.f k l1).bind fun t103 => (w05_WalkLess.j0 k l0 l1 a2 t101 t103)))) = some r := H
 have A4 := Aside0.mk A40
 clear A40
 have HC5 := Aside0.mk H
 clear H
 go_enter Tryz.func8, Tryz.ntmps8
 go_upto_region 2 with (first | (go_at_call 10; (with_reducible refine (Wk.Gv.head.calls  t101 _ A4.out (HTAB_.out _ (by first | exact Below.refl _ _ | (with_reducible exact Aside0.out (by assumption)) | repeat (first | (with_reducible exact Aside0.out (by assumption)) | apply below_alloc | apply pw_below_drewN | apply below_drew1 | (refine below_set ?_ ?_; rotate_left; (with_reducible exact Aside0.out (by assumption))))))).mono ?_); rintro e w6 ⟨rfl, hb⟩; have n0_ := Aside0.mk (below_step bw_ hb); clear HB; have HB := n0_; clear n0_; (try clear hb); (try clear hb2); (try clear hk); (try clear hi)))
 repeat (go_quiet (first | (go_at_call 10; (with_reducible refine (Wk.Gv.head.calls  t101 _ A4.out (HTAB_.out _ (by first | exact Below.refl _ _ | (with_reducible exact Aside0.out (by assumption)) | repeat (first | (with_reducible exact Aside0.out (by assumption)) | apply below_alloc | apply pw_below_drewN | apply below_drew1 | (refine below_set ?_ ?_; rotate_left; (with_reducible exact Aside0.out (by assumption))))))).mono ?_); rintro e w6 ⟨rfl, hb⟩; have n0_ := Aside0.mk (below_step bw_ hb); clear HB; have HB := n0_; clear n0_; (try clear hb); (try clear hb2); (try clear hk); (try clear hi))); go_upto_region 2 with (first | (go_at_call 10; (with_reducible refine (Wk.Gv.head.calls  t101 _ A4.out (HTAB_.out _ (by first | exact Below.refl _ _ | (with_reducible exact Aside0.out (by assumption)) | repeat (first | (with_reducible exact Aside0.out (by assumption)) | apply below_alloc | apply pw_below_drewN | apply below_drew1 | (refine below_set ?_ ?_; rotate_left; (with_reducible exact Aside0.out (by assumption))))))).mono ?_); rintro e w6 ⟨rfl, hb⟩; have n0_ := Aside0.mk (below_step bw_ hb); clear HB; have HB := n0_; clear n0_; (try clear hb); (try clear hb2); (try clear hk); (try clear hi))))
 (try simp only [Act.put, List.setIfInBounds_toArray, List.set_cons_zero, List.set_cons_succ])
 go_cut [23] (fun v23 wc => ∃ (kq : Nat) (x23_4 : Bool), v23 = .bool x23_4 ∧ Aside0 (w05_WalkLess.j0 kq l0 l1 a2 t101 x23_4 = some r) ∧ Aside0 (kq ≤ k) ∧ Aside0 (Below w.heap.size w wc))
 case first =>
  have H := HC5.out
  clear HC5
  replace H := Option.bind_eq_some_iff.mp H
  obtain ⟨t102, A70, H⟩ := H
  replace H : (if t102 = true then (w05_WalkLess.j0 k l0 l1 a2 t101 true) else ((PWkB.w05_GreatTexts.f k l1).bind fun t103 => (w05_WalkLess.j0 k l0 l1 a2 t101 t103))) = some r := H
  have A7 := Aside0.mk A70
  clear A70
  by_cases c8 : t102 = true
  ·
   subst c8
   have H1 : (w05_WalkLess.j0 k l0 l1 a2 t101 true) = some r := by rw [if_pos rfl] at H; exact H
   clear H
   have H := H1
   clear H1
   have H' := Aside0.mk H
   clear H
   go_wp2_with (first | (go_at_call 11; (with_reducible refine (PWkB.w05_Great.calls k _ _ l0 true _ ?side1 ?side2 A7.out).mono ?_); (case side1 => repeat (first | exact (Kd.C_below HR0.out HB.out) | (with_reducible refine Kd.C_alloc ?_ _) | (with_reducible refine Kd.C_drewN ?_ _) | (with_reducible refine Kd.C_drew ?_))); (case side2 => exact HC0.out); rintro e w9 ⟨rfl, hb⟩; have n0_ := Aside0.mk (below_step bw_ hb); clear HB; have HB := n0_; clear n0_; (try clear hb); (try clear hb2); (try clear hk); (try clear hi)))
   repeat (go_quiet (first | (go_at_call 11; (with_reducible refine (PWkB.w05_Great.calls k _ _ l0 true _ ?side1 ?side2 A7.out).mono ?_); (case side1 => repeat (first | exact (Kd.C_below HR0.out HB.out) | (with_reducible refine Kd.C_alloc ?_ _) | (with_reducible refine Kd.C_drewN ?_ _) | (with_reducible refine Kd.C_drew ?_))); (case side2 => exact HC0.out); rintro e w9 ⟨rfl, hb⟩; have n0_ := Aside0.mk (below_step bw_ hb); clear HB; have HB := n0_; clear n0_; (try clear hb); (try clear hb2); (try clear hk); (try clear hi))); try go_wp2_with (first | (go_at_call 11; (with_reducible refine (PWkB.w05_Great.calls k _ _ l0 true _ ?side1 ?side2 A7.out).mono ?_); (case side1 => repeat (first | exact (Kd.C_below HR0.out HB.out) | (with_reducible refine Kd.C_alloc ?_ _) | (with_reducible refine Kd.C_drewN ?_ _) | (with_reducible refine Kd.C_drew ?_))); (case side2 => exact HC0.out); rintro e w9 ⟨rfl, hb⟩; have n0_ := Aside0.mk (below_step bw_ hb); clear HB; have HB := n0_; clear n0_; (try clear hb); (try clear hb2); (try clear hk); (try clear hi))))
   go_meet
   case rel => exact ⟨_, (true), sd_, H', ⟨by first | omega | exact Nat.le_refl _⟩, ⟨bw_⟩⟩
  ·
   replace c8 := Bool.eq_false_iff.mpr c8
   subst c8
   have H1 : ((PWkB.w05_GreatTexts.f k l1).bind fun t103 => (w05_WalkLess.j0 k l0 l1 a2 t101 t103)) = some r := by rw [if_neg (show ¬ (false = true) by decide)] at H; exact H
   clear H
   have H := H1
   clear H1
   replace H := Option.bind_eq_some_iff.mp H
   obtain ⟨t103, A100, H⟩ := H
   replace H : (w05_WalkLess.j0 k l0 l1 a2 t101 t103) = some r := H
   have A10 := Aside0.mk A100
   clear A100
   have H' := Aside0.mk H
   clear H
   go_wp2_with (first | (go_at_call 11; (with_reducible refine (PWkB.w05_Great.calls k _ _ l0 false _ ?side1 ?side2 A7.out).mono ?_); (case side1 => repeat (first | exact (Kd.C_below HR0.out HB.out) | (with_reducible refine Kd.C_alloc ?_ _) | (with_reducible refine Kd.C_drewN ?_ _) | (with_reducible refine Kd.C_drew ?_))); (case side2 => exact HC0.out); rintro e w11 ⟨rfl, hb⟩; have n0_ := Aside0.mk (below_step bw_ hb); clear HB; have HB := n0_; clear n0_; (try clear hb); (try clear hb2); (try clear hk); (try clear hi)) | (go_at_call 12; (with_reducible refine (PWkB.w05_GreatTexts.calls k _ _ l1 t103 _ ?side1 ?side2 A10.out).mono ?_); (case side1 => repeat (first | exact (Kd.C_below HR1.out HB.out) | (with_reducible refine Kd.C_alloc ?_ _) | (with_reducible refine Kd.C_drewN ?_ _) | (with_reducible refine Kd.C_drew ?_))); (case side2 => exact HC1.out); rintro e w12 ⟨rfl, hb⟩; have n0_ := Aside0.mk (below_step bw_ hb); clear HB; have HB := n0_; clear n0_; (try clear hb); (try clear hb2); (try clear hk); (try clear hi)))
   repeat (go_quiet (first | (go_at_call 11; (with_reducible refine (PWkB.w05_Great.calls k _ _ l0 false _ ?side1 ?side2 A7.out).mono ?_); (case side1 => repeat (first | exact (Kd.C_below HR0.out HB.out) | (with_reducible refine Kd.C_alloc ?_ _) | (with_reducible refine Kd.C_drewN ?_ _) | (with_reducible refine Kd.C_drew ?_))); (case side2 => exact HC0.out); rintro e w11 ⟨rfl, hb⟩; have n0_ := Aside0.mk (below_step bw_ hb); clear HB; have HB := n0_; clear n0_; (try clear hb); (try clear hb2); (try clear hk); (try clear hi)) | (go_at_call 12; (with_reducible refine (PWkB.w05_GreatTexts.calls k _ _ l1 t103 _ ?side1 ?side2 A10.out).mono ?_); (case side1 => repeat (first | exact (Kd.C_below HR1.out HB.out) | (with_reducible refine Kd.C_alloc ?_ _) | (with_reducible refine Kd.C_drewN ?_ _) | (with_reducible refine Kd.C_drew ?_))); (case side2 => exact HC1.out); rintro e w12 ⟨rfl, hb⟩; have n0_ := Aside0.mk (below_step bw_ hb); clear HB; have HB := n0_; clear n0_; (try clear hb); (try clear hb2); (try clear hk); (try clear hi))); try go_wp2_with (first | (go_at_call 11; (with_reducible refine (PWkB.w05_Great.calls k _ _ l0 false _ ?side1 ?side2 A7.out).mono ?_); (case side1 => repeat (first | exact (Kd.C_below HR0.out HB.out) | (with_reducible refine Kd.C_alloc ?_ _) | (with_reducible refine Kd.C_drewN ?_ _) | (with_reducible refine Kd.C_drew ?_))); (case side2 => exact HC0.out); rintro e w11 ⟨rfl, hb⟩; have n0_ := Aside0.mk (below_step bw_ hb); clear HB; have HB := n0_; clear n0_; (try clear hb); (try clear hb2); (try clear hk); (try clear hi)) | (go_at_call 12; (with_reducible refine (PWkB.w05_GreatTexts.calls k _ _ l1 t103 _ ?side1 ?side2 A10.out).mono ?_); (case side1 => repeat (first | exact (Kd.C_below HR1.out HB.out) | (with_reducible refine Kd.C_alloc ?_ _) | (with_reducible refine Kd.C_drewN ?_ _) | (with_reducible refine Kd.C_drew ?_))); (case side2 => exact HC1.out); rintro e w12 ⟨rfl, hb⟩; have n0_ := Aside0.mk (below_step bw_ hb); clear HB; have HB := n0_; clear n0_; (try clear hb); (try clear hb2); (try clear hk); (try clear hi))))
   go_meet
   case rel => exact ⟨_, (t103), sd_, H', ⟨by first | omega | exact Nat.le_refl _⟩, ⟨bw_⟩⟩
 case rest =>
  clear HC5
  try clear c1
  try clear p2
  try clear c8
  obtain ⟨kq, x23_4, rfl, HA, HJ4, HB⟩ := hcut
  cases kq with
  | zero => exact absurd HA.out (by simp [w05_WalkLess.j0])
  | succ kj4 =>
   have H := HA.out
   clear HA
   simp only [w05_WalkLess.j0] at H
   by_cases c13 : x23_4 = true
   ·
    subst c13
    have H1 : (some t101) = some r := by rw [if_pos rfl] at H; exact H
    clear H
    have H := H1
    clear H1
    obtain rfl := Option.some.inj H
    go_wp2
    repeat (go_quiet (fail); try go_wp2)
    go_ret
    exact ⟨er_, bw_⟩
   ·
    replace c13 := Bool.eq_false_iff.mpr c13
    subst c13
    have H1 : ((Wk.Gv.closure.f l0 l1).bind fun bt104 => ((PWkB.walk_Pick.f kj4 l0 bt104.1).bind fun t110 => ((Wk.Gv.closure.f t110 l1).bind fun bt113 => ((PObBase.r04_SameTexts.f kj4 bt104.1 bt113.1).bind fun t119 => (if t119 = true then ((PObBase.r04_SameTexts.f kj4 bt104.2 bt113.2).bind fun t120 => (w05_WalkLess.j1 kj4 l0 l1 a2 t101 bt104.1 (!t120))) else (w05_WalkLess.j1 kj4 l0 l1 a2 t101 bt104.1 true)))))) = some r := by rw [if_neg (show ¬ (false = true) by decide)] at H; exact H
    clear H
    have H := H1
    clear H1
    replace H := Option.bind_eq_some_iff.mp H
    obtain ⟨⟨t104, t105⟩, A140, H⟩ := H
    replace H : ((PWkB.walk_Pick.f kj4 l0 t104).bind fun t110 => ((Wk.Gv.closure.f t110 l1).bind fun bt113 => ((PObBase.r04_SameTexts.f kj4 t104 bt113.1).bind fun t119 => (if t119 = true then ((PObBase.r04_SameTexts.f kj4 t105 bt113.2).bind fun t120 => (w05_WalkLess.j1 kj4 l0 l1 a2 t101 t104 (!t120))) else (w05_WalkLess.j1 kj4 l0 l1 a2 t101 t104 true))))) = some r := H
    have A14 := Aside0.mk A140
    clear A140
    replace H := Option.bind_eq_some_iff.mp H
    obtain ⟨t110, A150, H⟩ := H
    replace H : ((Wk.Gv.closure.f t110 l1).bind fun bt113 => ((PObBase.r04_SameTexts.f kj4 t104 bt113.1).bind fun t119 => (if t119 = true then ((PObBase.r04_SameTexts.f kj4 t105 bt113.2).bind fun t120 => (w05_WalkLess.j1 kj4 l0 l1 a2 t101 t104 (!t120))) else (w05_WalkLess.j1 kj4 l0 l1 a2 t101 t104 true)))) = some r := H
    have A15 := Aside0.mk A150
    clear A150
    replace H := Option.bind_eq_some_iff.mp H
    obtain ⟨⟨t113, t114⟩, A160, H⟩ := H
    replace H : ((PObBase.r04_SameTexts.f kj4 t104 t113).bind fun t119 => (if t119 = true then ((PObBase.r04_SameTexts.f kj4 t105 t114).bind fun t120 => (w05_WalkLess.j1 kj4 l0 l1 a2 t101 t104 (!t120))) else (w05_WalkLess.j1 kj4 l0 l1 a2 t101 t104 true))) = some r := H
    have A16 := Aside0.mk A160
    clear A160
    have HC17 := Aside0.mk H
    clear H
    go_upto_region 6 with (first | (go_at_call 13; (with_reducible refine (Wk.Gv.closure.calls _ _ l0 _ _ l1 t104 t105 _ ?side1 ?side2 ?side3 ?side4 A14.out (HTAB_.out _ (by first | exact Below.refl _ _ | (with_reducible exact Aside0.out (by assumption)) | repeat (first | (with_reducible exact Aside0.out (by assumption)) | apply below_alloc | apply pw_below_drewN | apply below_drew1 | (refine below_set ?_ ?_; rotate_left; (with_reducible exact Aside0.out (by assumption))))))).mono ?_); (case side1 => repeat (first | exact (Kd.C_below HR0.out HB.out) | (with_reducible refine Kd.C_alloc ?_ _) | (with_reducible refine Kd.C_drewN ?_ _) | (with_reducible refine Kd.C_drew ?_))); (case side2 => exact HC0.out); (case side3 => repeat (first | exact (Kd.C_below HR1.out HB.out) | (with_reducible refine Kd.C_alloc ?_ _) | (with_reducible refine Kd.C_drewN ?_ _) | (with_reducible refine Kd.C_drew ?_))); (case side4 => exact HC1.out); rintro e w18 ⟨v106, v108, rfl, ho0, ho1, hb⟩; have n0_ := Aside0.mk (Kd.R_lower ho0 (below_size bw_)); have n1_ := Aside0.mk (Kd.R_lower ho1 (below_size bw_)); have n2_ := Aside0.mk (below_step bw_ hb); clear HB; have HO107 := n0_; have HO109 := n1_; have HB := n2_; clear n0_ n1_ n2_; (try clear hb); (try clear hb2); (try clear hk); (try clear hi); (try clear ho0); (try clear ho1); obtain ⟨Ao19, co19, eo19⟩ := Kd.R_slice HO107.out; subst eo19) | (go_at_call 21; (with_reducible refine (PWkB.walk_Pick.calls kj4 _ _ l0 _ _ t104 t110 _ ?side1 ?side2 ?side3 ?side4 A15.out).mono ?_); (case side1 => repeat (first | exact (Kd.C_below HR0.out HB.out) | (with_reducible refine Kd.C_alloc ?_ _) | (with_reducible refine Kd.C_drewN ?_ _) | (with_reducible refine Kd.C_drew ?_))); (case side2 => exact HC0.out); (case side3 => repeat (first | exact (Kd.R_reads' HO107.out).2.2 | (with_reducible refine Kd.C_alloc ?_ _) | (with_reducible refine Kd.C_drewN ?_ _) | (with_reducible refine Kd.C_drew ?_))); (case side4 => exact (Kd.R_reads' HO107.out).2.1); rintro e w20 ⟨v111, rfl, ho0, hb⟩; have n0_ := Aside0.mk (Kd.R_below o10_ hb); have n1_ := Aside0.mk (Kd.R_below o9_ hb); have n2_ := Aside0.mk (Kd.R_lower ho0 (below_size bw_)); have n3_ := Aside0.mk (below_step bw_ hb); clear HO107; clear HO109; clear HB; have HO107 := n0_; have HO109 := n1_; have HO112 := n2_; have HB := n3_; clear n0_ n1_ n2_ n3_; (try clear hb); (try clear hb2); (try clear hk); (try clear hi); (try clear ho0); obtain ⟨Ao21, co21, eo21⟩ := Kd.R_slice HO112.out; subst eo21) | (go_at_call 13; (with_reducible refine (Wk.Gv.closure.calls _ _ t110 _ _ l1 t113 t114 _ ?side1 ?side2 ?side3 ?side4 A16.out (HTAB_.out _ (by first | exact Below.refl _ _ | (with_reducible exact Aside0.out (by assumption)) | repeat (first | (with_reducible exact Aside0.out (by assumption)) | apply below_alloc | apply pw_below_drewN | apply below_drew1 | (refine below_set ?_ ?_; rotate_left; (with_reducible exact Aside0.out (by assumption))))))).mono ?_); (case side1 => repeat (first | exact (Kd.R_reads' HO112.out).2.2 | (with_reducible refine Kd.C_alloc ?_ _) | (with_reducible refine Kd.C_drewN ?_ _) | (with_reducible refine Kd.C_drew ?_))); (case side2 => exact (Kd.R_reads' HO112.out).2.1); (case side3 => repeat (first | exact (Kd.C_below HR1.out HB.out) | (with_reducible refine Kd.C_alloc ?_ _) | (with_reducible refine Kd.C_drewN ?_ _) | (with_reducible refine Kd.C_drew ?_))); (case side4 => exact HC1.out); rintro e w22 ⟨v115, v117, rfl, ho0, ho1, hb⟩; have n0_ := Aside0.mk (Kd.R_mono (Kd.R_told (Kd.R_told (Kd.R_old o10_ hb) (Kd.R_base ho0)) (Kd.R_base ho1)) (fun _ h_ => h_.1)); have n1_ := Aside0.mk (Kd.R_mono (Kd.R_told (Kd.R_told (Kd.R_old o9_ hb) (Kd.R_base ho0)) (Kd.R_base ho1)) (fun _ h_ => h_.1)); have n2_ := Aside0.mk (Kd.R_below (by (with_reducible repeat (first | apply Kd.R_alloc | apply Kd.R_drewN | apply Kd.R_drew)); exact HO112.out) hb); have n3_ := Aside0.mk (Kd.R_lower (Kd.R_new' (Kd.R_new' ho0 (Kd.R_lt o10_)) (Kd.R_lt o9_)) (below_size bw_)); have n4_ := Aside0.mk (Kd.R_lower (Kd.R_new' (Kd.R_new' ho1 (Kd.R_lt o10_)) (Kd.R_lt o9_)) (below_size bw_)); have n5_ := Aside0.mk (below_step bw_ hb); clear HO107; clear HO109; clear HO112; clear HB; have HO107 := n0_; have HO109 := n1_; have HO112 := n2_; have HO116 := n3_; have HO118 := n4_; have HB := n5_; clear n0_ n1_ n2_ n3_ n4_ n5_; (try clear hb); (try clear hb2); (try clear hk); (try clear hi); (try clear ho0); (try clear ho1)))
    repeat (go_quiet (first | (go_at_call 13; (with_reducible refine (Wk.Gv.closure.calls _ _ l0 _ _ l1 t104 t105 _ ?side1 ?side2 ?side3 ?side4 A14.out (HTAB_.out _ (by first | exact Below.refl _ _ | (with_reducible exact Aside0.out (by assumption)) | repeat (first | (with_reducible exact Aside0.out (by assumption)) | apply below_alloc | apply pw_below_drewN | apply below_drew1 | (refine below_set ?_ ?_; rotate_left; (with_reducible exact Aside0.out (by assumption))))))).mono ?_); (case side1 => repeat (first | exact (Kd.C_below HR0.out HB.out) | (with_reducible refine Kd.C_alloc ?_ _) | (with_reducible refine Kd.C_drewN ?_ _) | (with_reducible refine Kd.C_drew ?_))); (case side2 => exact HC0.out); (case side3 => repeat (first | exact (Kd.C_below HR1.out HB.out) | (with_reducible refine Kd.C_alloc ?_ _) | (with_reducible refine Kd.C_drewN ?_ _) | (with_reducible refine Kd.C_drew ?_))); (case side4 => exact HC1.out); rintro e w18 ⟨v106, v108, rfl, ho0, ho1, hb⟩; have n0_ := Aside0.mk (Kd.R_lower ho0 (below_size bw_)); have n1_ := Aside0.mk (Kd.R_lower ho1 (below_size bw_)); have n2_ := Aside0.mk (below_step bw_ hb); clear HB; have HO107 := n0_; have HO109 := n1_; have HB := n2_; clear n0_ n1_ n2_; (try clear hb); (try clear hb2); (try clear hk); (try clear hi); (try clear ho0); (try clear ho1); obtain ⟨Ao19, co19, eo19⟩ := Kd.R_slice HO107.out; subst eo19) | (go_at_call 21; (with_reducible refine (PWkB.walk_Pick.calls kj4 _ _ l0 _ _ t104 t110 _ ?side1 ?side2 ?side3 ?side4 A15.out).mono ?_); (case side1 => repeat (first | exact (Kd.C_below HR0.out HB.out) | (with_reducible refine Kd.C_alloc ?_ _) | (with_reducible refine Kd.C_drewN ?_ _) | (with_reducible refine Kd.C_drew ?_))); (case side2 => exact HC0.out); (case side3 => repeat (first | exact (Kd.R_reads' HO107.out).2.2 | (with_reducible refine Kd.C_alloc ?_ _) | (with_reducible refine Kd.C_drewN ?_ _) | (with_reducible refine Kd.C_drew ?_))); (case side4 => exact (Kd.R_reads' HO107.out).2.1); rintro e w20 ⟨v111, rfl, ho0, hb⟩; have n0_ := Aside0.mk (Kd.R_below o10_ hb); have n1_ := Aside0.mk (Kd.R_below o9_ hb); have n2_ := Aside0.mk (Kd.R_lower ho0 (below_size bw_)); have n3_ := Aside0.mk (below_step bw_ hb); clear HO107; clear HO109; clear HB; have HO107 := n0_; have HO109 := n1_; have HO112 := n2_; have HB := n3_; clear n0_ n1_ n2_ n3_; (try clear hb); (try clear hb2); (try clear hk); (try clear hi); (try clear ho0); obtain ⟨Ao21, co21, eo21⟩ := Kd.R_slice HO112.out; subst eo21) | (go_at_call 13; (with_reducible refine (Wk.Gv.closure.calls _ _ t110 _ _ l1 t113 t114 _ ?side1 ?side2 ?side3 ?side4 A16.out (HTAB_.out _ (by first | exact Below.refl _ _ | (with_reducible exact Aside0.out (by assumption)) | repeat (first | (with_reducible exact Aside0.out (by assumption)) | apply below_alloc | apply pw_below_drewN | apply below_drew1 | (refine below_set ?_ ?_; rotate_left; (with_reducible exact Aside0.out (by assumption))))))).mono ?_); (case side1 => repeat (first | exact (Kd.R_reads' HO112.out).2.2 | (with_reducible refine Kd.C_alloc ?_ _) | (with_reducible refine Kd.C_drewN ?_ _) | (with_reducible refine Kd.C_drew ?_))); (case side2 => exact (Kd.R_reads' HO112.out).2.1); (case side3 => repeat (first | exact (Kd.C_below HR1.out HB.out) | (with_reducible refine Kd.C_alloc ?_ _) | (with_reducible refine Kd.C_drewN ?_ _) | (with_reducible refine Kd.C_drew ?_))); (case side4 => exact HC1.out); rintro e w22 ⟨v115, v117, rfl, ho0, ho1, hb⟩; have n0_ := Aside0.mk (Kd.R_mono (Kd.R_told (Kd.R_told (Kd.R_old o10_ hb) (Kd.R_base ho0)) (Kd.R_base ho1)) (fun _ h_ => h_.1)); have n1_ := Aside0.mk (Kd.R_mono (Kd.R_told (Kd.R_told (Kd.R_old o9_ hb) (Kd.R_base ho0)) (Kd.R_base ho1)) (fun _ h_ => h_.1)); have n2_ := Aside0.mk (Kd.R_below (by (with_reducible repeat (first | apply Kd.R_alloc | apply Kd.R_drewN | apply Kd.R_drew)); exact HO112.out) hb); have n3_ := Aside0.mk (Kd.R_lower (Kd.R_new' (Kd.R_new' ho0 (Kd.R_lt o10_)) (Kd.R_lt o9_)) (below_size bw_)); have n4_ := Aside0.mk (Kd.R_lower (Kd.R_new' (Kd.R_new' ho1 (Kd.R_lt o10_)) (Kd.R_lt o9_)) (below_size bw_)); have n5_ := Aside0.mk (below_step bw_ hb); clear HO107; clear HO109; clear HO112; clear HB; have HO107 := n0_; have HO109 := n1_; have HO112 := n2_; have HO116 := n3_; have HO118 := n4_; have HB := n5_; clear n0_ n1_ n2_ n3_ n4_ n5_; (try clear hb); (try clear hb2); (try clear hk); (try clear hi); (try clear ho0); (try clear ho1))); go_upto_region 6 with (first | (go_at_call 13; (with_reducible refine (Wk.Gv.closure.calls _ _ l0 _ _ l1 t104 t105 _ ?side1 ?side2 ?side3 ?side4 A14.out (HTAB_.out _ (by first | exact Below.refl _ _ | (with_reducible exact Aside0.out (by assumption)) | repeat (first | (with_reducible exact Aside0.out (by assumption)) | apply below_alloc | apply pw_below_drewN | apply below_drew1 | (refine below_set ?_ ?_; rotate_left; (with_reducible exact Aside0.out (by assumption))))))).mono ?_); (case side1 => repeat (first | exact (Kd.C_below HR0.out HB.out) | (with_reducible refine Kd.C_alloc ?_ _) | (with_reducible refine Kd.C_drewN ?_ _) | (with_reducible refine Kd.C_drew ?_))); (case side2 => exact HC0.out); (case side3 => repeat (first | exact (Kd.C_below HR1.out HB.out) | (with_reducible refine Kd.C_alloc ?_ _) | (with_reducible refine Kd.C_drewN ?_ _) | (with_reducible refine Kd.C_drew ?_))); (case side4 => exact HC1.out); rintro e w18 ⟨v106, v108, rfl, ho0, ho1, hb⟩; have n0_ := Aside0.mk (Kd.R_lower ho0 (below_size bw_)); have n1_ := Aside0.mk (Kd.R_lower ho1 (below_size bw_)); have n2_ := Aside0.mk (below_step bw_ hb); clear HB; have HO107 := n0_; have HO109 := n1_; have HB := n2_; clear n0_ n1_ n2_; (try clear hb); (try clear hb2); (try clear hk); (try clear hi); (try clear ho0); (try clear ho1); obtain ⟨Ao19, co19, eo19⟩ := Kd.R_slice HO107.out; subst eo19) | (go_at_call 21; (with_reducible refine (PWkB.walk_Pick.calls kj4 _ _ l0 _ _ t104 t110 _ ?side1 ?side2 ?side3 ?side4 A15.out).mono ?_); (case side1 => repeat (first | exact (Kd.C_below HR0.out HB.out) | (with_reducible refine Kd.C_alloc ?_ _) | (with_reducible refine Kd.C_drewN ?_ _) | (with_reducible refine Kd.C_drew ?_))); (case side2 => exact HC0.out); (case side3 => repeat (first | exact (Kd.R_reads' HO107.out).2.2 | (with_reducible refine Kd.C_alloc ?_ _) | (with_reducible refine Kd.C_drewN ?_ _) | (with_reducible refine Kd.C_drew ?_))); (case side4 => exact (Kd.R_reads' HO107.out).2.1); rintro e w20 ⟨v111, rfl, ho0, hb⟩; have n0_ := Aside0.mk (Kd.R_below o10_ hb); have n1_ := Aside0.mk (Kd.R_below o9_ hb); have n2_ := Aside0.mk (Kd.R_lower ho0 (below_size bw_)); have n3_ := Aside0.mk (below_step bw_ hb); clear HO107; clear HO109; clear HB; have HO107 := n0_; have HO109 := n1_; have HO112 := n2_; have HB := n3_; clear n0_ n1_ n2_ n3_; (try clear hb); (try clear hb2); (try clear hk); (try clear hi); (try clear ho0); obtain ⟨Ao21, co21, eo21⟩ := Kd.R_slice HO112.out; subst eo21) | (go_at_call 13; (with_reducible refine (Wk.Gv.closure.calls _ _ t110 _ _ l1 t113 t114 _ ?side1 ?side2 ?side3 ?side4 A16.out (HTAB_.out _ (by first | exact Below.refl _ _ | (with_reducible exact Aside0.out (by assumption)) | repeat (first | (with_reducible exact Aside0.out (by assumption)) | apply below_alloc | apply pw_below_drewN | apply below_drew1 | (refine below_set ?_ ?_; rotate_left; (with_reducible exact Aside0.out (by assumption))))))).mono ?_); (case side1 => repeat (first | exact (Kd.R_reads' HO112.out).2.2 | (with_reducible refine Kd.C_alloc ?_ _) | (with_reducible refine Kd.C_drewN ?_ _) | (with_reducible refine Kd.C_drew ?_))); (case side2 => exact (Kd.R_reads' HO112.out).2.1); (case side3 => repeat (first | exact (Kd.C_below HR1.out HB.out) | (with_reducible refine Kd.C_alloc ?_ _) | (with_reducible refine Kd.C_drewN ?_ _) | (with_reducible refine Kd.C_drew ?_))); (case side4 => exact HC1.out); rintro e w22 ⟨v115, v117, rfl, ho0, ho1, hb⟩; have n0_ := Aside0.mk (Kd.R_mono (Kd.R_told (Kd.R_told (Kd.R_old o10_ hb) (Kd.R_base ho0)) (Kd.R_base ho1)) (fun _ h_ => h_.1)); have n1_ := Aside0.mk (Kd.R_mono (Kd.R_told (Kd.R_told (Kd.R_old o9_ hb) (Kd.R_base ho0)) (Kd.R_base ho1)) (fun _ h_ => h_.1)); have n2_ := Aside0.mk (Kd.R_below (by (with_reducible repeat (first | apply Kd.R_alloc | apply Kd.R_drewN | apply Kd.R_drew)); exact HO112.out) hb); have n3_ := Aside0.mk (Kd.R_lower (Kd.R_new' (Kd.R_new' ho0 (Kd.R_lt o10_)) (Kd.R_lt o9_)) (below_size bw_)); have n4_ := Aside0.mk (Kd.R_lower (Kd.R_new' (Kd.R_new' ho1 (Kd.R_lt o10_)) (Kd.R_lt o9_)) (below_size bw_)); have n5_ := Aside0.mk (below_step bw_ hb); clear HO107; clear HO109; clear HO112; clear HB; have HO107 := n0_; have HO109 := n1_; have HO112 := n2_; have HO116 := n3_; have HO118 := n4_; have HB := n5_; clear n0_ n1_ n2_ n3_ n4_ n5_; (try clear hb); (try clear hb2); (try clear hk); (try clear hi); (try clear ho0); (try clear ho1))))
    (try simp only [Act.put, List.setIfInBounds_toArray, List.set_cons_zero, List.set_cons_succ])
    go_cut [48] (fun v48 wc => ∃ (kq : Nat) (x48_16 : Bool), v48 = .bool x48_16 ∧ Aside0 (w05_WalkLess.j1 kq l0 l1 a2 t101 t104 x48_16 = some r) ∧ Aside0 (kq ≤ kj4) ∧ Aside0 (Kd.R Kd.string 9 wc w.heap.size (fun _ => True) (.slice Ao19 t104.length co19) t104) ∧ Aside0 (Below w.heap.size w wc))
    case first =>
     have H := HC17.out
     clear HC17
     replace H := Option.bind_eq_some_iff.mp H
     obtain ⟨t119, A230, H⟩ := H
     replace H : (if t119 = true then ((PObBase.r04_SameTexts.f kj4 t105 t114).bind fun t120 => (w05_WalkLess.j1 kj4 l0 l1 a2 t101 t104 (!t120))) else (w05_WalkLess.j1 kj4 l0 l1 a2 t101 t104 true)) = some r := H
     have A23 := Aside0.mk A230
     clear A230
     by_cases c24 : t119 = true
     ·
      subst c24
      have H1 : ((PObBase.r04_SameTexts.f kj4 t105 t114).bind fun t120 => (w05_WalkLess.j1 kj4 l0 l1 a2 t101 t104 (!t120))) = some r := by rw [if_pos rfl] at H; exact H
      clear H
      have H := H1
      clear H1
      replace H := Option.bind_eq_some_iff.mp H
      obtain ⟨t120, A250, H⟩ := H
      replace H : (w05_WalkLess.j1 kj4 l0 l1 a2 t101 t104 (!t120)) = some r := H
      have A25 := Aside0.mk A250
      clear A250
      have H' := Aside0.mk H
      clear H
      obtain ⟨Ao26, co26, eo26⟩ := Kd.R_slice HO116.out
      subst eo26
      go_wp2_with (first | (go_at_call 17; (with_reducible refine (PObBase.r04_SameTexts.calls kj4 _ _ t104 _ _ t113 true _ ?side1 ?side2 ?side3 ?side4 A23.out).mono ?_); (case side1 => repeat (first | exact (Kd.R_reads' HO107.out).2.2 | (with_reducible refine Kd.C_alloc ?_ _) | (with_reducible refine Kd.C_drewN ?_ _) | (with_reducible refine Kd.C_drew ?_))); (case side2 => exact (Kd.R_reads' HO107.out).2.1); (case side3 => repeat (first | exact (Kd.R_reads' HO116.out).2.2 | (with_reducible refine Kd.C_alloc ?_ _) | (with_reducible refine Kd.C_drewN ?_ _) | (with_reducible refine Kd.C_drew ?_))); (case side4 => exact (Kd.R_reads' HO116.out).2.1); rintro e w' ⟨rfl, ⟨nd, rfl⟩⟩; (try first | exact ⟨rfl, _, World.drewN_drewN _ _ _⟩ | exact ⟨rfl, _, Eq.trans (World.drewN_drewN _ _ _) (congrArg (World.drewN _) (Nat.add_assoc _ _ _))⟩); obtain ⟨Ao27, co27, eo27⟩ := Kd.R_slice HO109.out; subst eo27; obtain ⟨Ao28, co28, eo28⟩ := Kd.R_slice HO118.out; subst eo28) | (go_at_call 17; (with_reducible refine (PObBase.r04_SameTexts.calls kj4 _ _ t105 _ _ t114 t120 _ ?side1 ?side2 ?side3 ?side4 A25.out).mono ?_); (case side1 => repeat (first | exact (Kd.R_reads' HO109.out).2.2 | (with_reducible refine Kd.C_alloc ?_ _) | (with_reducible refine Kd.C_drewN ?_ _) | (with_reducible refine Kd.C_drew ?_))); (case side2 => exact (Kd.R_reads' HO109.out).2.1); (case side3 => repeat (first | exact (Kd.R_reads' HO118.out).2.2 | (with_reducible refine Kd.C_alloc ?_ _) | (with_reducible refine Kd.C_drewN ?_ _) | (with_reducible refine Kd.C_drew ?_))); (case side4 => exact (Kd.R_reads' HO118.out).2.1); rintro e w' ⟨rfl, ⟨nd, rfl⟩⟩; (try first | exact ⟨rfl, _, World.drewN_drewN _ _ _⟩ | exact ⟨rfl, _, Eq.trans (World.drewN_drewN _ _ _) (congrArg (World.drewN _) (Nat.add_assoc _ _ _))⟩)))
      repeat (go_quiet (first | (go_at_call 17; (with_reducible refine (PObBase.r04_SameTexts.calls kj4 _ _ t104 _ _ t113 true _ ?side1 ?side2 ?side3 ?side4 A23.out).mono ?_); (case side1 => repeat (first | exact (Kd.R_reads' HO107.out).2.2 | (with_reducible refine Kd.C_alloc ?_ _) | (with_reducible refine Kd.C_drewN ?_ _) | (with_reducible refine Kd.C_drew ?_))); (case side2 => exact (Kd.R_reads' HO107.out).2.1); (case side3 => repeat (first | exact (Kd.R_reads' HO116.out).2.2 | (with_reducible refine Kd.C_alloc ?_ _) | (with_reducible refine Kd.C_drewN ?_ _) | (with_reducible refine Kd.C_drew ?_))); (case side4 => exact (Kd.R_reads' HO116.out).2.1); rintro e w' ⟨rfl, ⟨nd, rfl⟩⟩; (try first | exact ⟨rfl, _, World.drewN_drewN _ _ _⟩ | exact ⟨rfl, _, Eq.trans (World.drewN_drewN _ _ _) (congrArg (World.drewN _) (Nat.add_assoc _ _ _))⟩); obtain ⟨Ao27, co27, eo27⟩ := Kd.R_slice HO109.out; subst eo27; obtain ⟨Ao28, co28, eo28⟩ := Kd.R_slice HO118.out; subst eo28) | (go_at_call 17; (with_reducible refine (PObBase.r04_SameTexts.calls kj4 _ _ t105 _ _ t114 t120 _ ?side1 ?side2 ?side3 ?side4 A25.out).mono ?_); (case side1 => repeat (first | exact (Kd.R_reads' HO109.out).2.2 | (with_reducible refine Kd.C_alloc ?_ _) | (with_reducible refine Kd.C_drewN ?_ _) | (with_reducible refine Kd.C_drew ?_))); (case side2 => exact (Kd.R_reads' HO109.out).2.1); (case side3 => repeat (first | exact (Kd.R_reads' HO118.out).2.2 | (with_reducible refine Kd.C_alloc ?_ _) | (with_reducible refine Kd.C_drewN ?_ _) | (with_reducible refine Kd.C_drew ?_))); (case side4 => exact (Kd.R_reads' HO118.out).2.1); rintro e w' ⟨rfl, ⟨nd, rfl⟩⟩; (try first | exact ⟨rfl, _, World.drewN_drewN _ _ _⟩ | exact ⟨rfl, _, Eq.trans (World.drewN_drewN _ _ _) (congrArg (World.drewN _) (Nat.add_assoc _ _ _))⟩))); try go_wp2_with (first | (go_at_call 17; (with_reducible refine (PObBase.r04_SameTexts.calls kj4 _ _ t104 _ _ t113 true _ ?side1 ?side2 ?side3 ?side4 A23.out).mono ?_); (case side1 => repeat (first | exact (Kd.R_reads' HO107.out).2.2 | (with_reducible refine Kd.C_alloc ?_ _) | (with_reducible refine Kd.C_drewN ?_ _) | (with_reducible refine Kd.C_drew ?_))); (case side2 => exact (Kd.R_reads' HO107.out).2.1); (case side3 => repeat (first | exact (Kd.R_reads' HO116.out).2.2 | (with_reducible refine Kd.C_alloc ?_ _) | (with_reducible refine Kd.C_drewN ?_ _) | (with_reducible refine Kd.C_drew ?_))); (case side4 => exact (Kd.R_reads' HO116.out).2.1); rintro e w' ⟨rfl, ⟨nd, rfl⟩⟩; (try first | exact ⟨rfl, _, World.drewN_drewN _ _ _⟩ | exact ⟨rfl, _, Eq.trans (World.drewN_drewN _ _ _) (congrArg (World.drewN _) (Nat.add_assoc _ _ _))⟩); obtain ⟨Ao27, co27, eo27⟩ := Kd.R_slice HO109.out; subst eo27; obtain ⟨Ao28, co28, eo28⟩ := Kd.R_slice HO118.out; subst eo28) | (go_at_call 17; (with_reducible refine (PObBase.r04_SameTexts.calls kj4 _ _ t105 _ _ t114 t120 _ ?side1 ?side2 ?side3 ?side4 A25.out).mono ?_); (case side1 => repeat (first | exact (Kd.R_reads' HO109.out).2.2 | (with_reducible refine Kd.C_alloc ?_ _) | (with_reducible refine Kd.C_drewN ?_ _) | (with_reducible refine Kd.C_drew ?_))); (case side2 => exact (Kd.R_reads' HO109.out).2.1); (case side3 => repeat (first | exact (Kd.R_reads' HO118.out).2.2 | (with_reducible refine Kd.C_alloc ?_ _) | (with_reducible refine Kd.C_drewN ?_ _) | (with_reducible refine Kd.C_drew ?_))); (case side4 => exact (Kd.R_reads' HO118.out).2.1); rintro e w' ⟨rfl, ⟨nd, rfl⟩⟩; (try first | exact ⟨rfl, _, World.drewN_drewN _ _ _⟩ | exact ⟨rfl, _, Eq.trans (World.drewN_drewN _ _ _) (congrArg (World.drewN _) (Nat.add_assoc _ _ _))⟩))))
      go_meet
      case rel => exact ⟨_, (!t120), sd_, H', ⟨by have := HJ4.out; first | omega | exact Nat.le_refl _⟩, ⟨by (with_reducible repeat (first | apply Kd.R_alloc | apply Kd.R_drewN | apply Kd.R_drew)); exact Kd.R_mono HO107.out (fun _ hk => trivial)⟩, ⟨bw_⟩⟩
     ·
      replace c24 := Bool.eq_false_iff.mpr c24
      subst c24
      have H1 : (w05_WalkLess.j1 kj4 l0 l1 a2 t101 t104 true) = some r := by rw [if_neg (show ¬ (false = true) by decide)] at H; exact H
      clear H
      have H := H1
      clear H1
      have H' := Aside0.mk H
      clear H
      obtain ⟨Ao29, co29, eo29⟩ := Kd.R_slice HO116.out
      subst eo29
      go_wp2_with (first | (go_at_call 17; (with_reducible refine (PObBase.r04_SameTexts.calls kj4 _ _ t104 _ _ t113 false _ ?side1 ?side2 ?side3 ?side4 A23.out).mono ?_); (case side1 => repeat (first | exact (Kd.R_reads' HO107.out).2.2 | (with_reducible refine Kd.C_alloc ?_ _) | (with_reducible refine Kd.C_drewN ?_ _) | (with_reducible refine Kd.C_drew ?_))); (case side2 => exact (Kd.R_reads' HO107.out).2.1); (case side3 => repeat (first | exact (Kd.R_reads' HO116.out).2.2 | (with_reducible refine Kd.C_alloc ?_ _) | (with_reducible refine Kd.C_drewN ?_ _) | (with_reducible refine Kd.C_drew ?_))); (case side4 => exact (Kd.R_reads' HO116.out).2.1); rintro e w' ⟨rfl, ⟨nd, rfl⟩⟩; (try first | exact ⟨rfl, _, World.drewN_drewN _ _ _⟩ | exact ⟨rfl, _, Eq.trans (World.drewN_drewN _ _ _) (congrArg (World.drewN _) (Nat.add_assoc _ _ _))⟩)))
      repeat (go_quiet (first | (go_at_call 17; (with_reducible refine (PObBase.r04_SameTexts.calls kj4 _ _ t104 _ _ t113 false _ ?side1 ?side2 ?side3 ?side4 A23.out).mono ?_); (case side1 => repeat (first | exact (Kd.R_reads' HO107.out).2.2 | (with_reducible refine Kd.C_alloc ?_ _) | (with_reducible refine Kd.C_drewN ?_ _) | (with_reducible refine Kd.C_drew ?_))); (case side2 => exact (Kd.R_reads' HO107.out).2.1); (case side3 => repeat (first | exact (Kd.R_reads' HO116.out).2.2 | (with_reducible refine Kd.C_alloc ?_ _) | (with_reducible refine Kd.C_drewN ?_ _) | (with_reducible refine Kd.C_drew ?_))); (case side4 => exact (Kd.R_reads' HO116.out).2.1); rintro e w' ⟨rfl, ⟨nd, rfl⟩⟩; (try first | exact ⟨rfl, _, World.drewN_drewN _ _ _⟩ | exact ⟨rfl, _, Eq.trans (World.drewN_drewN _ _ _) (congrArg (World.drewN _) (Nat.add_assoc _ _ _))⟩))); try go_wp2_with (first | (go_at_call 17; (with_reducible refine (PObBase.r04_SameTexts.calls kj4 _ _ t104 _ _ t113 false _ ?side1 ?side2 ?side3 ?side4 A23.out).mono ?_); (case side1 => repeat (first | exact (Kd.R_reads' HO107.out).2.2 | (with_reducible refine Kd.C_alloc ?_ _) | (with_reducible refine Kd.C_drewN ?_ _) | (with_reducible refine Kd.C_drew ?_))); (case side2 => exact (Kd.R_reads' HO107.out).2.1); (case side3 => repeat (first | exact (Kd.R_reads' HO116.out).2.2 | (with_reducible refine Kd.C_alloc ?_ _) | (with_reducible refine Kd.C_drewN ?_ _) | (with_reducible refine Kd.C_drew ?_))); (case side4 => exact (Kd.R_reads' HO116.out).2.1); rintro e w' ⟨rfl, ⟨nd, rfl⟩⟩; (try first | exact ⟨rfl, _, World.drewN_drewN _ _ _⟩ | exact ⟨rfl, _, Eq.trans (World.drewN_drewN _ _ _) (congrArg (World.drewN _) (Nat.add_assoc _ _ _))⟩))))
      go_meet
      case rel => exact ⟨_, (true), sd_, H', ⟨by have := HJ4.out; first | omega | exact Nat.le_refl _⟩, ⟨by (with_reducible repeat (first | apply Kd.R_alloc | apply Kd.R_drewN | apply Kd.R_drew)); exact Kd.R_mono HO107.out (fun _ hk => trivial)⟩, ⟨bw_⟩⟩
    case rest =>
     clear HC17
     try clear c1
     try clear c2
     try clear p2
     try clear c8
     try clear c13
     try clear c24
     try clear p2
     obtain ⟨kq, x48_16, rfl, HA, HJ16, HO_8, HB⟩ := hcut
     cases kq with
     | zero => exact absurd HA.out (by simp [w05_WalkLess.j1])
     | succ kj16 =>
      have H := HA.out
      clear HA
      simp only [w05_WalkLess.j1] at H
      by_cases c30 : x48_16 = true
      ·
       subst c30
       have H1 : (some false) = some r := by rw [if_pos rfl] at H; exact H
       clear H
       have H := H1
       clear H1
       obtain rfl := Option.some.inj H
       go_wp2
       repeat (go_quiet (fail); try go_wp2)
       go_ret
       exact ⟨er_, bw_⟩
      ·
       replace c30 := Bool.eq_false_iff.mpr c30
       subst c30
       have H1 : (if (t104.length : Int) = 0 then (some t101) else (w05_WalkLess.l0 kj16 l0 l1 t101 t104 (Int.tmod (wrap64 (a2)) (t104.length : Int)) ([] : List (S49)) 0)) = some r := by rw [if_neg (show ¬ (false = true) by decide)] at H; exact H
       clear H
       have H := H1
       clear H1
       by_cases c31 : (t104.length : Int) = 0
       ·
        rw [if_pos c31] at H
        have c31b0 : ((t104.length : Int) == 0) = true := beq_iff_eq.mpr c31
        have c31b1 : ((t104.length : Int) != 0) = false := bne_eq_false_iff_eq.mpr c31
        clear c31
        obtain rfl := Option.some.inj H
        go_wp2
        repeat (go_quiet (fail); try go_wp2)
        go_ret
        exact ⟨er_, bw_⟩
       ·
        rw [if_neg c31] at H
        have c31b0 : ((t104.length : Int) == 0) = false := beq_eq_false_iff_ne.mpr c31
        have c31b1 : ((t104.length : Int) != 0) = true := bne_iff_ne.mpr c31
        have c31b2 : ¬ (t104 = []) := fun h_ => c31 (by rw [h_]; rfl)
        obtain ⟨ji34, hji34⟩ : ∃ j_ : Int, (Int.tmod (wrap64 (a2)) (t104.length : Int)) = j_ := ⟨_, rfl⟩
        rw [hji34] at H
        have H' := Aside0.mk H
        clear H
        go_wp2
        repeat (go_quiet (fail); try go_wp2)
        go_loopg [13, 14] kj16 (fun kq v13 v14 w' => ∃ (x13_3 : List (S49)) (x14_3 : Int), v14 = .int .i64 x14_3 ∧ Aside0 (w05_WalkLess.l0 kq l0 l1 t101 t104 (ji34) x13_3 x14_3 = some r) ∧ Aside0 (kq ≤ kj16) ∧ Aside0 (Kd.R Kd.string 9 w' w.heap.size (fun _ => True) (.slice Ao19 t104.length co19) t104) ∧ Aside0 (Kd.R k49 49 w' w.heap.size (fun _ => True) v13 x13_3) ∧ Aside0 (Below w.heap.size w w'))
        case atStart => exact ⟨(([] : List (S49))), (0), sd_, H', ⟨Nat.le_refl _⟩, ⟨o11_⟩, ⟨kn_⟩, ⟨bw_⟩⟩
        case round =>
         clear H'
         try clear c1
         try clear c2
         try clear p2
         try clear c3
         try clear p6
         try clear c8
         try clear c13
         try clear c24
         try clear c30
         try clear c31
         try clear c31b0
         try clear c31b1
         try clear c31b2
         try clear p2
         obtain ⟨x13_3, x14_3, rfl, HA, HK3, HO_8, HO_13, HB⟩ := hrel
         cases gk with
         | zero => exact absurd HA.out (by simp [w05_WalkLess.l0])
         | succ k3 =>
          have H := HA.out
          clear HA
          simp only [w05_WalkLess.l0] at H
          by_cases c32 : x14_3 < (l0.length : Int)
          ·
           rw [if_pos c32] at H
           have c32b0 : decide (x14_3 < (l0.length : Int)) = true := decide_eq_true c32
           clear c32
           by_cases c33 : 0 ≤ x14_3
           ·
            rw [if_pos c33] at H
            have c33b0 : decide (0 ≤ x14_3) = true := decide_eq_true c33
            clear c33
            replace H : (if 0 ≤ (ji34) then (if (ji34) < (t104.length : Int) then (if ((rd_T49 l0 x14_3).f0).toList = (rdOf ByteArray.empty t104 (ji34)).toList then (w05_WalkLess.l0 k3 l0 l1 t101 t104 (ji34) x13_3 (wrap64 (x14_3 + 1))) else (if x13_3.length < 3518437208883 then (w05_WalkLess.l0 k3 l0 l1 t101 t104 (ji34) (x13_3 ++ [(⟨(rd_T49 l0 x14_3).f0, (⟨(rd_T49 l0 x14_3).f1.f0, (rd_T49 l0 x14_3).f1.f1⟩ : S30)⟩ : S49)]) (wrap64 (x14_3 + 1))) else (none))) else (none)) else (none)) = some r := by first | exact H | (rw [hji34] at H; exact H) | (simp only [hji34] at H ⊢; exact H)
            by_cases c35 : 0 ≤ (ji34)
            ·
             rw [if_pos c35] at H
             have c35b0 : decide (0 ≤ (ji34)) = true := decide_eq_true c35
             clear c35
             by_cases c36 : (ji34) < (t104.length : Int)
             ·
              rw [if_pos c36] at H
              have c36b0 : decide ((ji34) < (t104.length : Int)) = true := decide_eq_true c36
              clear c36
              by_cases c37 : ((rd_T49 l0 x14_3).f0).toList = (rdOf ByteArray.empty t104 (ji34)).toList
              ·
               rw [if_pos c37] at H
               have c37b0 : (((rd_T49 l0 x14_3).f0).toList == (rdOf ByteArray.empty t104 (ji34)).toList) = true := beq_iff_eq.mpr c37
               have c37b1 : (((rd_T49 l0 x14_3).f0).toList != (rdOf ByteArray.empty t104 (ji34)).toList) = false := bne_eq_false_iff_eq.mpr c37
               clear c37
               have H' := Aside0.mk H
               clear H
               have p121 : 0 ≤ (x14_3 : Int) := oda_
               have q121 : x14_3 < (l0.length : Int) := oda_
               obtain ⟨ad121, e121, hx121_0, hx121_1, hx121_2⟩ := at_T49 HR0.out x14_3 p121 q121
               cases e121
               replace hx121_0 := (HB.out.cell (World.block_lt_of_cell? w _ hx121_0)).trans hx121_0
               replace hx121_1 := (HB.out.cell (World.block_lt_of_cell? w _ hx121_1)).trans hx121_1
               replace hx121_2 := (HB.out.cell (World.block_lt_of_cell? w _ hx121_2)).trans hx121_2
               replace p121 := eq_true p121
               replace q121 := eq_true q121
               have p122 : 0 ≤ ((ji34) : Int) := oda_
               have q122 : (ji34) < (t104.length : Int) := oda_
               obtain ⟨ad122, e122, hx122_0⟩ := Kd.at_string (Kd.R_reads' HO_8.out).2.2 (ji34) p122 q122
               cases e122
               replace p122 := eq_true p122
               replace q122 := eq_true q122
               go_wp2
               repeat (go_quiet (fail); try go_wp2)
               go_roundg k3
               case measure => have := HJ4.out; have := HJ16.out; have := HK3.out; omega
               case rel => exact ⟨(x13_3), (wrap64 (x14_3 + 1)), sd_, H', ⟨by have := HJ4.out; have := HJ16.out; have := HK3.out; omega⟩, ⟨o11_⟩, ⟨o8_⟩, ⟨bw_⟩⟩
              ·
               rw [if_neg c37] at H
               have c37b0 : (((rd_T49 l0 x14_3).f0).toList == (rdOf ByteArray.empty t104 (ji34)).toList) = false := beq_eq_false_iff_ne.mpr c37
               have c37b1 : (((rd_T49 l0 x14_3).f0).toList != (rdOf ByteArray.empty t104 (ji34)).toList) = true := bne_iff_ne.mpr c37
               by_cases c38 : x13_3.length < 3518437208883
               ·
                rw [if_pos c38] at H
                have LMc38 := Aside0.mk c38
                clear c38
                obtain ⟨y124, hy124⟩ : ∃ y_ : List (S49), y_ = (x13_3 ++ [(⟨(rd_T49 l0 x14_3).f0, (⟨(rd_T49 l0 x14_3).f1.f0, (rd_T49 l0 x14_3).f1.f1⟩ : S30)⟩ : S49)]) := ⟨_, rfl⟩
                replace H : (w05_WalkLess.l0 k3 l0 l1 t101 t104 (ji34) y124 (wrap64 (x14_3 + 1))) = some r := by first | (rw [hy124]; with_reducible exact H) | (have H2_ := (Option.bind_some _ _).symm.trans H; rw [hy124]; with_reducible exact H2_) | (have H2_ := (Option.bind_some _ _).symm.trans H; with_reducible exact H2_) | with_reducible exact H | (rw [hy124]; exact H) | exact H
                have Ny124 := Aside0.mk hy124
                clear hy124
                have H' := Aside0.mk H
                clear H
                have p121 : 0 ≤ (x14_3 : Int) := oda_
                have q121 : x14_3 < (l0.length : Int) := oda_
                obtain ⟨ad121, e121, hx121_0, hx121_1, hx121_2⟩ := at_T49 HR0.out x14_3 p121 q121
                cases e121
                replace hx121_0 := (HB.out.cell (World.block_lt_of_cell? w _ hx121_0)).trans hx121_0
                replace hx121_1 := (HB.out.cell (World.block_lt_of_cell? w _ hx121_1)).trans hx121_1
                replace hx121_2 := (HB.out.cell (World.block_lt_of_cell? w _ hx121_2)).trans hx121_2
                replace p121 := eq_true p121
                replace q121 := eq_true q121
                have p122 : 0 ≤ ((ji34) : Int) := oda_
                have q122 : (ji34) < (t104.length : Int) := oda_
                obtain ⟨ad122, e122, hx122_0⟩ := Kd.at_string (Kd.R_reads' HO_8.out).2.2 (ji34) p122 q122
                cases e122
                replace p122 := eq_true p122
                replace q122 := eq_true q122
                have p123 : 0 ≤ (x14_3 : Int) := oda_
                have q123 : x14_3 < (l0.length : Int) := oda_
                obtain ⟨ad123, e123, hx123_0, hx123_1, hx123_2⟩ := at_T49 HR0.out x14_3 p123 q123
                obtain rfl : ad121 = ad123 := (by injection e123)
                replace hx123_0 := (HB.out.cell (World.block_lt_of_cell? w _ hx123_0)).trans hx123_0
                replace hx123_1 := (HB.out.cell (World.block_lt_of_cell? w _ hx123_1)).trans hx123_1
                replace hx123_2 := (HB.out.cell (World.block_lt_of_cell? w _ hx123_2)).trans hx123_2
                replace p123 := eq_true p123
                replace q123 := eq_true q123
                go_wp2_with (first | ((with_reducible refine gate_builtin (b := .append) (xs := #[.tmp 74, .tmp 79]) rfl ?_); (try (refine gate_guard (by rfl) ?_; dsimp only)); at_builtin; refine Kd.R_append k49 (w0 := w) w.heap.size rfl (.tmp 74) (.tmp 79) 22 49 (.agg #[(.string ⟨#[]⟩), (.int .i64 0), (.string ⟨#[]⟩)]) 40 rfl Tryz.underlying22 info49 rfl (by decide) (by omega) u13 x13_3 (⟨(rd_T49 l0 x14_3).f0, (⟨(rd_T49 l0 x14_3).f1.f0, (rd_T49 l0 x14_3).f1.f1⟩ : S30)⟩ : S49) [.string ((rd_T49 l0 x14_3).f0), .int .i64 ((rd_T49 l0 x14_3).f1.f0), .string ((rd_T49 l0 x14_3).f1.f1)] (fun _ => True) (fun _ => False) rfl rfl ?aP (fun _ hk => hk.elim) ?aF ?aO ?aB ?aS ?aL ?_; (case aP => exact k49_mkM _ _ _ (⟨(rd_T49 l0 x14_3).f0, (⟨(rd_T49 l0 x14_3).f1.f0, (rd_T49 l0 x14_3).f1.f1⟩ : S30)⟩ : S49)); (case aB => exact bw_); (case aF => exact (fun _ _ => trivial)); (case aO => exact o8_); (case aS => exact (below_size bw_)); (case aL => have := LMc38.out; omega); intro v125 w39 ho hb hg hat; rw [← Ny124.out] at ho; have n0_ := Aside0.mk (Kd.R_over' o11_ (Kd.R_typed o8_) (by decide) hg); have n1_ := Aside0.mk (hb); have n2_ := Aside0.mk (ho); clear HO_8; clear HB; clear HO_13; have HO_8 := n0_; have HB := n1_; have HO126 := n2_; clear n0_ n1_ n2_; clear ho hb hg hat))
                repeat (go_quiet (first | ((with_reducible refine gate_builtin (b := .append) (xs := #[.tmp 74, .tmp 79]) rfl ?_); (try (refine gate_guard (by rfl) ?_; dsimp only)); at_builtin; refine Kd.R_append k49 (w0 := w) w.heap.size rfl (.tmp 74) (.tmp 79) 22 49 (.agg #[(.string ⟨#[]⟩), (.int .i64 0), (.string ⟨#[]⟩)]) 40 rfl Tryz.underlying22 info49 rfl (by decide) (by omega) u13 x13_3 (⟨(rd_T49 l0 x14_3).f0, (⟨(rd_T49 l0 x14_3).f1.f0, (rd_T49 l0 x14_3).f1.f1⟩ : S30)⟩ : S49) [.string ((rd_T49 l0 x14_3).f0), .int .i64 ((rd_T49 l0 x14_3).f1.f0), .string ((rd_T49 l0 x14_3).f1.f1)] (fun _ => True) (fun _ => False) rfl rfl ?aP (fun _ hk => hk.elim) ?aF ?aO ?aB ?aS ?aL ?_; (case aP => exact k49_mkM _ _ _ (⟨(rd_T49 l0 x14_3).f0, (⟨(rd_T49 l0 x14_3).f1.f0, (rd_T49 l0 x14_3).f1.f1⟩ : S30)⟩ : S49)); (case aB => exact bw_); (case aF => exact (fun _ _ => trivial)); (case aO => exact o8_); (case aS => exact (below_size bw_)); (case aL => have := LMc38.out; omega); intro v125 w39 ho hb hg hat; rw [← Ny124.out] at ho; have n0_ := Aside0.mk (Kd.R_over' o11_ (Kd.R_typed o8_) (by decide) hg); have n1_ := Aside0.mk (hb); have n2_ := Aside0.mk (ho); clear HO_8; clear HB; clear HO_13; have HO_8 := n0_; have HB := n1_; have HO126 := n2_; clear n0_ n1_ n2_; clear ho hb hg hat)); try go_wp2_with (first | ((with_reducible refine gate_builtin (b := .append) (xs := #[.tmp 74, .tmp 79]) rfl ?_); (try (refine gate_guard (by rfl) ?_; dsimp only)); at_builtin; refine Kd.R_append k49 (w0 := w) w.heap.size rfl (.tmp 74) (.tmp 79) 22 49 (.agg #[(.string ⟨#[]⟩), (.int .i64 0), (.string ⟨#[]⟩)]) 40 rfl Tryz.underlying22 info49 rfl (by decide) (by omega) u13 x13_3 (⟨(rd_T49 l0 x14_3).f0, (⟨(rd_T49 l0 x14_3).f1.f0, (rd_T49 l0 x14_3).f1.f1⟩ : S30)⟩ : S49) [.string ((rd_T49 l0 x14_3).f0), .int .i64 ((rd_T49 l0 x14_3).f1.f0), .string ((rd_T49 l0 x14_3).f1.f1)] (fun _ => True) (fun _ => False) rfl rfl ?aP (fun _ hk => hk.elim) ?aF ?aO ?aB ?aS ?aL ?_; (case aP => exact k49_mkM _ _ _ (⟨(rd_T49 l0 x14_3).f0, (⟨(rd_T49 l0 x14_3).f1.f0, (rd_T49 l0 x14_3).f1.f1⟩ : S30)⟩ : S49)); (case aB => exact bw_); (case aF => exact (fun _ _ => trivial)); (case aO => exact o8_); (case aS => exact (below_size bw_)); (case aL => have := LMc38.out; omega); intro v125 w39 ho hb hg hat; rw [← Ny124.out] at ho; have n0_ := Aside0.mk (Kd.R_over' o11_ (Kd.R_typed o8_) (by decide) hg); have n1_ := Aside0.mk (hb); have n2_ := Aside0.mk (ho); clear HO_8; clear HB; clear HO_13; have HO_8 := n0_; have HB := n1_; have HO126 := n2_; clear n0_ n1_ n2_; clear ho hb hg hat)))
                go_roundg k3
                case measure => have := HJ4.out; have := HJ16.out; have := HK3.out; omega
                case rel => exact ⟨(y124), (wrap64 (x14_3 + 1)), sd_, H', ⟨by have := HJ4.out; have := HJ16.out; have := HK3.out; omega⟩, ⟨o11_⟩, ⟨by (with_reducible repeat (first | apply Kd.R_alloc | apply Kd.R_drewN | apply Kd.R_drew)); exact HO126.out⟩, ⟨bw_⟩⟩
               ·
                rw [if_neg c38] at H
                exact absurd H (by simp)
             ·
              rw [if_neg c36] at H
              exact absurd H (by simp)
            ·
             rw [if_neg c35] at H
             exact absurd H (by simp)
           ·
            rw [if_neg c33] at H
            exact absurd H (by simp)
          ·
           rw [if_neg c32] at H
           have c32b0 : decide (x14_3 < (l0.length : Int)) = false := decide_eq_false c32
           clear c32
           replace H := Option.bind_eq_some_iff.mp H
           obtain ⟨⟨t127, t128⟩, A400, H⟩ := H
           replace H : (if t101 = true then (if 0 ≤ (ji34) then (if (ji34) < (t104.length : Int) then ((PWkB.r05_Has.f k3 t128 (rdOf ByteArray.empty t104 (ji34))).bind fun t134 => (if t134 = true then ((PWkB.r05_Has.f k3 t127 (rdOf ByteArray.empty t104 (ji34))).bind fun t136 => (if t136 = true then (some false) else (some (decide ((t127.length : Int) < (t104.length : Int)))))) else (some false))) else (none)) else (none)) else (some false)) = some r := H
           have A40 := Aside0.mk A400
           clear A400
           by_cases c41 : t101 = true
           ·
            subst c41
            have H1 : (if 0 ≤ (ji34) then (if (ji34) < (t104.length : Int) then ((PWkB.r05_Has.f k3 t128 (rdOf ByteArray.empty t104 (ji34))).bind fun t134 => (if t134 = true then ((PWkB.r05_Has.f k3 t127 (rdOf ByteArray.empty t104 (ji34))).bind fun t136 => (if t136 = true then (some false) else (some (decide ((t127.length : Int) < (t104.length : Int)))))) else (some false))) else (none)) else (none)) = some r := by rw [if_pos rfl] at H; exact H
            clear H
            have H := H1
            clear H1
            replace H : (if 0 ≤ (ji34) then (if (ji34) < (t104.length : Int) then ((PWkB.r05_Has.f k3 t128 (rdOf ByteArray.empty t104 (ji34))).bind fun t134 => (if t134 = true then ((PWkB.r05_Has.f k3 t127 (rdOf ByteArray.empty t104 (ji34))).bind fun t136 => (if t136 = true then (some false) else (some (decide ((t127.length : Int) < (t104.length : Int)))))) else (some false))) else (none)) else (none)) = some r := by first | exact H | (rw [hji34] at H; exact H) | (simp only [hji34] at H ⊢; exact H)
            (try rw [hji34] at A40)
            by_cases c43 : 0 ≤ (ji34)
            ·
             rw [if_pos c43] at H
             have c43b0 : decide (0 ≤ (ji34)) = true := decide_eq_true c43
             clear c43
             by_cases c44 : (ji34) < (t104.length : Int)
             ·
              rw [if_pos c44] at H
              have c44b0 : decide ((ji34) < (t104.length : Int)) = true := decide_eq_true c44
              clear c44
              replace H := Option.bind_eq_some_iff.mp H
              obtain ⟨t134, A450, H⟩ := H
              replace H : (if t134 = true then ((PWkB.r05_Has.f k3 t127 (rdOf ByteArray.empty t104 (ji34))).bind fun t136 => (if t136 = true then (some false) else (some (decide ((t127.length : Int) < (t104.length : Int)))))) else (some false)) = some r := H
              have A45 := Aside0.mk A450
              clear A450
              by_cases c46 : t134 = true
              ·
               subst c46
               have H1 : ((PWkB.r05_Has.f k3 t127 (rdOf ByteArray.empty t104 (ji34))).bind fun t136 => (if t136 = true then (some false) else (some (decide ((t127.length : Int) < (t104.length : Int)))))) = some r := by rw [if_pos rfl] at H; exact H
               clear H
               have H := H1
               clear H1
               replace H := Option.bind_eq_some_iff.mp H
               obtain ⟨t136, A470, H⟩ := H
               replace H : (if t136 = true then (some false) else (some (decide ((t127.length : Int) < (t104.length : Int))))) = some r := H
               have A47 := Aside0.mk A470
               clear A470
               by_cases c48 : t136 = true
               ·
                subst c48
                have H1 : (some false) = some r := by rw [if_pos rfl] at H; exact H
                clear H
                have H := H1
                clear H1
                obtain rfl := Option.some.inj H
                obtain ⟨Ao49, co49, eo49⟩ := Kd.R_slice HO_13.out
                subst eo49
                go_wp2_with (first | (go_at_call 13; (with_reducible refine (Wk.Gv.closure.calls _ _ x13_3 _ _ l1 t127 t128 _ ?side1 ?side2 ?side3 ?side4 A40.out (HTAB_.out _ (by first | exact Below.refl _ _ | (with_reducible exact Aside0.out (by assumption)) | repeat (first | (with_reducible exact Aside0.out (by assumption)) | apply below_alloc | apply pw_below_drewN | apply below_drew1 | (refine below_set ?_ ?_; rotate_left; (with_reducible exact Aside0.out (by assumption))))))).mono ?_); (case side1 => repeat (first | exact (Kd.R_reads' HO_13.out).2.2 | (with_reducible refine Kd.C_alloc ?_ _) | (with_reducible refine Kd.C_drewN ?_ _) | (with_reducible refine Kd.C_drew ?_))); (case side2 => exact (Kd.R_reads' HO_13.out).2.1); (case side3 => repeat (first | exact (Kd.C_below HR1.out HB.out) | (with_reducible refine Kd.C_alloc ?_ _) | (with_reducible refine Kd.C_drewN ?_ _) | (with_reducible refine Kd.C_drew ?_))); (case side4 => exact HC1.out); rintro e w50 ⟨v129, v131, rfl, ho0, ho1, hb⟩; have n0_ := Aside0.mk (Kd.R_mono (Kd.R_told (Kd.R_told (Kd.R_old o11_ hb) (Kd.R_base ho0)) (Kd.R_base ho1)) (fun _ h_ => h_.1)); have n1_ := Aside0.mk (Kd.R_below o8_ hb); have n2_ := Aside0.mk (Kd.R_lower (Kd.R_new' ho0 (Kd.R_lt o11_)) (below_size bw_)); have n3_ := Aside0.mk (Kd.R_lower (Kd.R_new' ho1 (Kd.R_lt o11_)) (below_size bw_)); have n4_ := Aside0.mk (below_step bw_ hb); clear HO_8; clear HO_13; clear HB; have HO_8 := n0_; have HO_13 := n1_; have HO130 := n2_; have HO132 := n3_; have HB := n4_; clear n0_ n1_ n2_ n3_ n4_; (try clear hb); (try clear hb2); (try clear hk); (try clear hi); (try clear ho0); (try clear ho1); have p133 : 0 ≤ ((ji34) : Int) := oda_; have q133 : (ji34) < (t104.length : Int) := oda_; obtain ⟨ad133, e133, hx133_0⟩ := Kd.at_string (Kd.R_reads' HO_8.out).2.2 (ji34) p133 q133; cases e133; replace p133 := eq_true p133; replace q133 := eq_true q133; obtain ⟨Ao51, co51, eo51⟩ := Kd.R_slice HO132.out; subst eo51) | (go_at_call 23; (with_reducible refine (PWkB.r05_Has.calls k3 _ _ t128 (rdOf ByteArray.empty t104 (ji34)) true _ ?side1 ?side2 A45.out).mono ?_); (case side1 => repeat (first | exact (Kd.R_reads' HO132.out).2.2 | (with_reducible refine Kd.C_alloc ?_ _) | (with_reducible refine Kd.C_drewN ?_ _) | (with_reducible refine Kd.C_drew ?_))); (case side2 => exact (Kd.R_reads' HO132.out).2.1); rintro e w' ⟨rfl, ⟨nd, rfl⟩⟩; (try first | exact ⟨rfl, _, World.drewN_drewN _ _ _⟩ | exact ⟨rfl, _, Eq.trans (World.drewN_drewN _ _ _) (congrArg (World.drewN _) (Nat.add_assoc _ _ _))⟩); have p135 : 0 ≤ ((ji34) : Int) := oda_; have q135 : (ji34) < (t104.length : Int) := oda_; obtain ⟨ad135, e135, hx135_0⟩ := Kd.at_string (Kd.R_reads' HO_8.out).2.2 (ji34) p135 q135; obtain rfl : ad133 = ad135 := (by injection e135); replace p135 := eq_true p135; replace q135 := eq_true q135; obtain ⟨Ao52, co52, eo52⟩ := Kd.R_slice HO130.out; subst eo52) | (go_at_call 23; (with_reducible refine (PWkB.r05_Has.calls k3 _ _ t127 (rdOf ByteArray.empty t104 (ji34)) true _ ?side1 ?side2 A47.out).mono ?_); (case side1 => repeat (first | exact (Kd.R_reads' HO130.out).2.2 | (with_reducible refine Kd.C_alloc ?_ _) | (with_reducible refine Kd.C_drewN ?_ _) | (with_reducible refine Kd.C_drew ?_))); (case side2 => exact (Kd.R_reads' HO130.out).2.1); rintro e w' ⟨rfl, ⟨nd, rfl⟩⟩; (try first | exact ⟨rfl, _, World.drewN_drewN _ _ _⟩ | exact ⟨rfl, _, Eq.trans (World.drewN_drewN _ _ _) (congrArg (World.drewN _) (Nat.add_assoc _ _ _))⟩)))
                repeat (go_quiet (first | (go_at_call 13; (with_reducible refine (Wk.Gv.closure.calls _ _ x13_3 _ _ l1 t127 t128 _ ?side1 ?side2 ?side3 ?side4 A40.out (HTAB_.out _ (by first | exact Below.refl _ _ | (with_reducible exact Aside0.out (by assumption)) | repeat (first | (with_reducible exact Aside0.out (by assumption)) | apply below_alloc | apply pw_below_drewN | apply below_drew1 | (refine below_set ?_ ?_; rotate_left; (with_reducible exact Aside0.out (by assumption))))))).mono ?_); (case side1 => repeat (first | exact (Kd.R_reads' HO_13.out).2.2 | (with_reducible refine Kd.C_alloc ?_ _) | (with_reducible refine Kd.C_drewN ?_ _) | (with_reducible refine Kd.C_drew ?_))); (case side2 => exact (Kd.R_reads' HO_13.out).2.1); (case side3 => repeat (first | exact (Kd.C_below HR1.out HB.out) | (with_reducible refine Kd.C_alloc ?_ _) | (with_reducible refine Kd.C_drewN ?_ _) | (with_reducible refine Kd.C_drew ?_))); (case side4 => exact HC1.out); rintro e w50 ⟨v129, v131, rfl, ho0, ho1, hb⟩; have n0_ := Aside0.mk (Kd.R_mono (Kd.R_told (Kd.R_told (Kd.R_old o11_ hb) (Kd.R_base ho0)) (Kd.R_base ho1)) (fun _ h_ => h_.1)); have n1_ := Aside0.mk (Kd.R_below o8_ hb); have n2_ := Aside0.mk (Kd.R_lower (Kd.R_new' ho0 (Kd.R_lt o11_)) (below_size bw_)); have n3_ := Aside0.mk (Kd.R_lower (Kd.R_new' ho1 (Kd.R_lt o11_)) (below_size bw_)); have n4_ := Aside0.mk (below_step bw_ hb); clear HO_8; clear HO_13; clear HB; have HO_8 := n0_; have HO_13 := n1_; have HO130 := n2_; have HO132 := n3_; have HB := n4_; clear n0_ n1_ n2_ n3_ n4_; (try clear hb); (try clear hb2); (try clear hk); (try clear hi); (try clear ho0); (try clear ho1); have p133 : 0 ≤ ((ji34) : Int) := oda_; have q133 : (ji34) < (t104.length : Int) := oda_; obtain ⟨ad133, e133, hx133_0⟩ := Kd.at_string (Kd.R_reads' HO_8.out).2.2 (ji34) p133 q133; cases e133; replace p133 := eq_true p133; replace q133 := eq_true q133; obtain ⟨Ao51, co51, eo51⟩ := Kd.R_slice HO132.out; subst eo51) | (go_at_call 23; (with_reducible refine (PWkB.r05_Has.calls k3 _ _ t128 (rdOf ByteArray.empty t104 (ji34)) true _ ?side1 ?side2 A45.out).mono ?_); (case side1 => repeat (first | exact (Kd.R_reads' HO132.out).2.2 | (with_reducible refine Kd.C_alloc ?_ _) | (with_reducible refine Kd.C_drewN ?_ _) | (with_reducible refine Kd.C_drew ?_))); (case side2 => exact (Kd.R_reads' HO132.out).2.1); rintro e w' ⟨rfl, ⟨nd, rfl⟩⟩; (try first | exact ⟨rfl, _, World.drewN_drewN _ _ _⟩ | exact ⟨rfl, _, Eq.trans (World.drewN_drewN _ _ _) (congrArg (World.drewN _) (Nat.add_assoc _ _ _))⟩); have p135 : 0 ≤ ((ji34) : Int) := oda_; have q135 : (ji34) < (t104.length : Int) := oda_; obtain ⟨ad135, e135, hx135_0⟩ := Kd.at_string (Kd.R_reads' HO_8.out).2.2 (ji34) p135 q135; obtain rfl : ad133 = ad135 := (by injection e135); replace p135 := eq_true p135; replace q135 := eq_true q135; obtain ⟨Ao52, co52, eo52⟩ := Kd.R_slice HO130.out; subst eo52) | (go_at_call 23; (with_reducible refine (PWkB.r05_Has.calls k3 _ _ t127 (rdOf ByteArray.empty t104 (ji34)) true _ ?side1 ?side2 A47.out).mono ?_); (case side1 => repeat (first | exact (Kd.R_reads' HO130.out).2.2 | (with_reducible refine Kd.C_alloc ?_ _) | (with_reducible refine Kd.C_drewN ?_ _) | (with_reducible refine Kd.C_drew ?_))); (case side2 => exact (Kd.R_reads' HO130.out).2.1); rintro e w' ⟨rfl, ⟨nd, rfl⟩⟩; (try first | exact ⟨rfl, _, World.drewN_drewN _ _ _⟩ | exact ⟨rfl, _, Eq.trans (World.drewN_drewN _ _ _) (congrArg (World.drewN _) (Nat.add_assoc _ _ _))⟩))); try go_wp2_with (first | (go_at_call 13; (with_reducible refine (Wk.Gv.closure.calls _ _ x13_3 _ _ l1 t127 t128 _ ?side1 ?side2 ?side3 ?side4 A40.out (HTAB_.out _ (by first | exact Below.refl _ _ | (with_reducible exact Aside0.out (by assumption)) | repeat (first | (with_reducible exact Aside0.out (by assumption)) | apply below_alloc | apply pw_below_drewN | apply below_drew1 | (refine below_set ?_ ?_; rotate_left; (with_reducible exact Aside0.out (by assumption))))))).mono ?_); (case side1 => repeat (first | exact (Kd.R_reads' HO_13.out).2.2 | (with_reducible refine Kd.C_alloc ?_ _) | (with_reducible refine Kd.C_drewN ?_ _) | (with_reducible refine Kd.C_drew ?_))); (case side2 => exact (Kd.R_reads' HO_13.out).2.1); (case side3 => repeat (first | exact (Kd.C_below HR1.out HB.out) | (with_reducible refine Kd.C_alloc ?_ _) | (with_reducible refine Kd.C_drewN ?_ _) | (with_reducible refine Kd.C_drew ?_))); (case side4 => exact HC1.out); rintro e w50 ⟨v129, v131, rfl, ho0, ho1, hb⟩; have n0_ := Aside0.mk (Kd.R_mono (Kd.R_told (Kd.R_told (Kd.R_old o11_ hb) (Kd.R_base ho0)) (Kd.R_base ho1)) (fun _ h_ => h_.1)); have n1_ := Aside0.mk (Kd.R_below o8_ hb); have n2_ := Aside0.mk (Kd.R_lower (Kd.R_new' ho0 (Kd.R_lt o11_)) (below_size bw_)); have n3_ := Aside0.mk (Kd.R_lower (Kd.R_new' ho1 (Kd.R_lt o11_)) (below_size bw_)); have n4_ := Aside0.mk (below_step bw_ hb); clear HO_8; clear HO_13; clear HB; have HO_8 := n0_; have HO_13 := n1_; have HO130 := n2_; have HO132 := n3_; have HB := n4_; clear n0_ n1_ n2_ n3_ n4_; (try clear hb); (try clear hb2); (try clear hk); (try clear hi); (try clear ho0); (try clear ho1); have p133 : 0 ≤ ((ji34) : Int) := oda_; have q133 : (ji34) < (t104.length : Int) := oda_; obtain ⟨ad133, e133, hx133_0⟩ := Kd.at_string (Kd.R_reads' HO_8.out).2.2 (ji34) p133 q133; cases e133; replace p133 := eq_true p133; replace q133 := eq_true q133; obtain ⟨Ao51, co51, eo51⟩ := Kd.R_slice HO132.out; subst eo51) | (go_at_call 23; (with_reducible refine (PWkB.r05_Has.calls k3 _ _ t128 (rdOf ByteArray.empty t104 (ji34)) true _ ?side1 ?side2 A45.out).mono ?_); (case side1 => repeat (first | exact (Kd.R_reads' HO132.out).2.2 | (with_reducible refine Kd.C_alloc ?_ _) | (with_reducible refine Kd.C_drewN ?_ _) | (with_reducible refine Kd.C_drew ?_))); (case side2 => exact (Kd.R_reads' HO132.out).2.1); rintro e w' ⟨rfl, ⟨nd, rfl⟩⟩; (try first | exact ⟨rfl, _, World.drewN_drewN _ _ _⟩ | exact ⟨rfl, _, Eq.trans (World.drewN_drewN _ _ _) (congrArg (World.drewN _) (Nat.add_assoc _ _ _))⟩); have p135 : 0 ≤ ((ji34) : Int) := oda_; have q135 : (ji34) < (t104.length : Int) := oda_; obtain ⟨ad135, e135, hx135_0⟩ := Kd.at_string (Kd.R_reads' HO_8.out).2.2 (ji34) p135 q135; obtain rfl : ad133 = ad135 := (by injection e135); replace p135 := eq_true p135; replace q135 := eq_true q135; obtain ⟨Ao52, co52, eo52⟩ := Kd.R_slice HO130.out; subst eo52) | (go_at_call 23; (with_reducible refine (PWkB.r05_Has.calls k3 _ _ t127 (rdOf ByteArray.empty t104 (ji34)) true _ ?side1 ?side2 A47.out).mono ?_); (case side1 => repeat (first | exact (Kd.R_reads' HO130.out).2.2 | (with_reducible refine Kd.C_alloc ?_ _) | (with_reducible refine Kd.C_drewN ?_ _) | (with_reducible refine Kd.C_drew ?_))); (case side2 => exact (Kd.R_reads' HO130.out).2.1); rintro e w' ⟨rfl, ⟨nd, rfl⟩⟩; (try first | exact ⟨rfl, _, World.drewN_drewN _ _ _⟩ | exact ⟨rfl, _, Eq.trans (World.drewN_drewN _ _ _) (congrArg (World.drewN _) (Nat.add_assoc _ _ _))⟩))))
                go_ret
                exact ⟨by first | rfl | (simp [errW_none, errW_some] <;> rfl) | (simp only [← hji34]; first | rfl | (simp [errW_none, errW_some] <;> rfl)) | (simp [*, errW_none, errW_some] <;> rfl), bw_⟩
               ·
                replace c48 := Bool.eq_false_iff.mpr c48
                subst c48
                have H1 : (some (decide ((t127.length : Int) < (t104.length : Int)))) = some r := by rw [if_neg (show ¬ (false = true) by decide)] at H; exact H
                clear H
                have H := H1
                clear H1
                obtain rfl := Option.some.inj H
                obtain ⟨Ao53, co53, eo53⟩ := Kd.R_slice HO_13.out
                subst eo53
                go_wp2_with (first | (go_at_call 13; (with_reducible refine (Wk.Gv.closure.calls _ _ x13_3 _ _ l1 t127 t128 _ ?side1 ?side2 ?side3 ?side4 A40.out (HTAB_.out _ (by first | exact Below.refl _ _ | (with_reducible exact Aside0.out (by assumption)) | repeat (first | (with_reducible exact Aside0.out (by assumption)) | apply below_alloc | apply pw_below_drewN | apply below_drew1 | (refine below_set ?_ ?_; rotate_left; (with_reducible exact Aside0.out (by assumption))))))).mono ?_); (case side1 => repeat (first | exact (Kd.R_reads' HO_13.out).2.2 | (with_reducible refine Kd.C_alloc ?_ _) | (with_reducible refine Kd.C_drewN ?_ _) | (with_reducible refine Kd.C_drew ?_))); (case side2 => exact (Kd.R_reads' HO_13.out).2.1); (case side3 => repeat (first | exact (Kd.C_below HR1.out HB.out) | (with_reducible refine Kd.C_alloc ?_ _) | (with_reducible refine Kd.C_drewN ?_ _) | (with_reducible refine Kd.C_drew ?_))); (case side4 => exact HC1.out); rintro e w54 ⟨v129, v131, rfl, ho0, ho1, hb⟩; have n0_ := Aside0.mk (Kd.R_mono (Kd.R_told (Kd.R_told (Kd.R_old o11_ hb) (Kd.R_base ho0)) (Kd.R_base ho1)) (fun _ h_ => h_.1)); have n1_ := Aside0.mk (Kd.R_below o8_ hb); have n2_ := Aside0.mk (Kd.R_lower (Kd.R_new' ho0 (Kd.R_lt o11_)) (below_size bw_)); have n3_ := Aside0.mk (Kd.R_lower (Kd.R_new' ho1 (Kd.R_lt o11_)) (below_size bw_)); have n4_ := Aside0.mk (below_step bw_ hb); clear HO_8; clear HO_13; clear HB; have HO_8 := n0_; have HO_13 := n1_; have HO130 := n2_; have HO132 := n3_; have HB := n4_; clear n0_ n1_ n2_ n3_ n4_; (try clear hb); (try clear hb2); (try clear hk); (try clear hi); (try clear ho0); (try clear ho1); have p133 : 0 ≤ ((ji34) : Int) := oda_; have q133 : (ji34) < (t104.length : Int) := oda_; obtain ⟨ad133, e133, hx133_0⟩ := Kd.at_string (Kd.R_reads' HO_8.out).2.2 (ji34) p133 q133; cases e133; replace p133 := eq_true p133; replace q133 := eq_true q133; obtain ⟨Ao55, co55, eo55⟩ := Kd.R_slice HO132.out; subst eo55) | (go_at_call 23; (with_reducible refine (PWkB.r05_Has.calls k3 _ _ t128 (rdOf ByteArray.empty t104 (ji34)) true _ ?side1 ?side2 A45.out).mono ?_); (case side1 => repeat (first | exact (Kd.R_reads' HO132.out).2.2 | (with_reducible refine Kd.C_alloc ?_ _) | (with_reducible refine Kd.C_drewN ?_ _) | (with_reducible refine Kd.C_drew ?_))); (case side2 => exact (Kd.R_reads' HO132.out).2.1); rintro e w' ⟨rfl, ⟨nd, rfl⟩⟩; (try first | exact ⟨rfl, _, World.drewN_drewN _ _ _⟩ | exact ⟨rfl, _, Eq.trans (World.drewN_drewN _ _ _) (congrArg (World.drewN _) (Nat.add_assoc _ _ _))⟩); have p135 : 0 ≤ ((ji34) : Int) := oda_; have q135 : (ji34) < (t104.length : Int) := oda_; obtain ⟨ad135, e135, hx135_0⟩ := Kd.at_string (Kd.R_reads' HO_8.out).2.2 (ji34) p135 q135; obtain rfl : ad133 = ad135 := (by injection e135); replace p135 := eq_true p135; replace q135 := eq_true q135; obtain ⟨Ao56, co56, eo56⟩ := Kd.R_slice HO130.out; subst eo56) | (go_at_call 23; (with_reducible refine (PWkB.r05_Has.calls k3 _ _ t127 (rdOf ByteArray.empty t104 (ji34)) false _ ?side1 ?side2 A47.out).mono ?_); (case side1 => repeat (first | exact (Kd.R_reads' HO130.out).2.2 | (with_reducible refine Kd.C_alloc ?_ _) | (with_reducible refine Kd.C_drewN ?_ _) | (with_reducible refine Kd.C_drew ?_))); (case side2 => exact (Kd.R_reads' HO130.out).2.1); rintro e w' ⟨rfl, ⟨nd, rfl⟩⟩; (try first | exact ⟨rfl, _, World.drewN_drewN _ _ _⟩ | exact ⟨rfl, _, Eq.trans (World.drewN_drewN _ _ _) (congrArg (World.drewN _) (Nat.add_assoc _ _ _))⟩)))
                repeat (go_quiet (first | (go_at_call 13; (with_reducible refine (Wk.Gv.closure.calls _ _ x13_3 _ _ l1 t127 t128 _ ?side1 ?side2 ?side3 ?side4 A40.out (HTAB_.out _ (by first | exact Below.refl _ _ | (with_reducible exact Aside0.out (by assumption)) | repeat (first | (with_reducible exact Aside0.out (by assumption)) | apply below_alloc | apply pw_below_drewN | apply below_drew1 | (refine below_set ?_ ?_; rotate_left; (with_reducible exact Aside0.out (by assumption))))))).mono ?_); (case side1 => repeat (first | exact (Kd.R_reads' HO_13.out).2.2 | (with_reducible refine Kd.C_alloc ?_ _) | (with_reducible refine Kd.C_drewN ?_ _) | (with_reducible refine Kd.C_drew ?_))); (case side2 => exact (Kd.R_reads' HO_13.out).2.1); (case side3 => repeat (first | exact (Kd.C_below HR1.out HB.out) | (with_reducible refine Kd.C_alloc ?_ _) | (with_reducible refine Kd.C_drewN ?_ _) | (with_reducible refine Kd.C_drew ?_))); (case side4 => exact HC1.out); rintro e w54 ⟨v129, v131, rfl, ho0, ho1, hb⟩; have n0_ := Aside0.mk (Kd.R_mono (Kd.R_told (Kd.R_told (Kd.R_old o11_ hb) (Kd.R_base ho0)) (Kd.R_base ho1)) (fun _ h_ => h_.1)); have n1_ := Aside0.mk (Kd.R_below o8_ hb); have n2_ := Aside0.mk (Kd.R_lower (Kd.R_new' ho0 (Kd.R_lt o11_)) (below_size bw_)); have n3_ := Aside0.mk (Kd.R_lower (Kd.R_new' ho1 (Kd.R_lt o11_)) (below_size bw_)); have n4_ := Aside0.mk (below_step bw_ hb); clear HO_8; clear HO_13; clear HB; have HO_8 := n0_; have HO_13 := n1_; have HO130 := n2_; have HO132 := n3_; have HB := n4_; clear n0_ n1_ n2_ n3_ n4_; (try clear hb); (try clear hb2); (try clear hk); (try clear hi); (try clear ho0); (try clear ho1); have p133 : 0 ≤ ((ji34) : Int) := oda_; have q133 : (ji34) < (t104.length : Int) := oda_; obtain ⟨ad133, e133, hx133_0⟩ := Kd.at_string (Kd.R_reads' HO_8.out).2.2 (ji34) p133 q133; cases e133; replace p133 := eq_true p133; replace q133 := eq_true q133; obtain ⟨Ao55, co55, eo55⟩ := Kd.R_slice HO132.out; subst eo55) | (go_at_call 23; (with_reducible refine (PWkB.r05_Has.calls k3 _ _ t128 (rdOf ByteArray.empty t104 (ji34)) true _ ?side1 ?side2 A45.out).mono ?_); (case side1 => repeat (first | exact (Kd.R_reads' HO132.out).2.2 | (with_reducible refine Kd.C_alloc ?_ _) | (with_reducible refine Kd.C_drewN ?_ _) | (with_reducible refine Kd.C_drew ?_))); (case side2 => exact (Kd.R_reads' HO132.out).2.1); rintro e w' ⟨rfl, ⟨nd, rfl⟩⟩; (try first | exact ⟨rfl, _, World.drewN_drewN _ _ _⟩ | exact ⟨rfl, _, Eq.trans (World.drewN_drewN _ _ _) (congrArg (World.drewN _) (Nat.add_assoc _ _ _))⟩); have p135 : 0 ≤ ((ji34) : Int) := oda_; have q135 : (ji34) < (t104.length : Int) := oda_; obtain ⟨ad135, e135, hx135_0⟩ := Kd.at_string (Kd.R_reads' HO_8.out).2.2 (ji34) p135 q135; obtain rfl : ad133 = ad135 := (by injection e135); replace p135 := eq_true p135; replace q135 := eq_true q135; obtain ⟨Ao56, co56, eo56⟩ := Kd.R_slice HO130.out; subst eo56) | (go_at_call 23; (with_reducible refine (PWkB.r05_Has.calls k3 _ _ t127 (rdOf ByteArray.empty t104 (ji34)) false _ ?side1 ?side2 A47.out).mono ?_); (case side1 => repeat (first | exact (Kd.R_reads' HO130.out).2.2 | (with_reducible refine Kd.C_alloc ?_ _) | (with_reducible refine Kd.C_drewN ?_ _) | (with_reducible refine Kd.C_drew ?_))); (case side2 => exact (Kd.R_reads' HO130.out).2.1); rintro e w' ⟨rfl, ⟨nd, rfl⟩⟩; (try first | exact ⟨rfl, _, World.drewN_drewN _ _ _⟩ | exact ⟨rfl, _, Eq.trans (World.drewN_drewN _ _ _) (congrArg (World.drewN _) (Nat.add_assoc _ _ _))⟩))); try go_wp2_with (first | (go_at_call 13; (with_reducible refine (Wk.Gv.closure.calls _ _ x13_3 _ _ l1 t127 t128 _ ?side1 ?side2 ?side3 ?side4 A40.out (HTAB_.out _ (by first | exact Below.refl _ _ | (with_reducible exact Aside0.out (by assumption)) | repeat (first | (with_reducible exact Aside0.out (by assumption)) | apply below_alloc | apply pw_below_drewN | apply below_drew1 | (refine below_set ?_ ?_; rotate_left; (with_reducible exact Aside0.out (by assumption))))))).mono ?_); (case side1 => repeat (first | exact (Kd.R_reads' HO_13.out).2.2 | (with_reducible refine Kd.C_alloc ?_ _) | (with_reducible refine Kd.C_drewN ?_ _) | (with_reducible refine Kd.C_drew ?_))); (case side2 => exact (Kd.R_reads' HO_13.out).2.1); (case side3 => repeat (first | exact (Kd.C_below HR1.out HB.out) | (with_reducible refine Kd.C_alloc ?_ _) | (with_reducible refine Kd.C_drewN ?_ _) | (with_reducible refine Kd.C_drew ?_))); (case side4 => exact HC1.out); rintro e w54 ⟨v129, v131, rfl, ho0, ho1, hb⟩; have n0_ := Aside0.mk (Kd.R_mono (Kd.R_told (Kd.R_told (Kd.R_old o11_ hb) (Kd.R_base ho0)) (Kd.R_base ho1)) (fun _ h_ => h_.1)); have n1_ := Aside0.mk (Kd.R_below o8_ hb); have n2_ := Aside0.mk (Kd.R_lower (Kd.R_new' ho0 (Kd.R_lt o11_)) (below_size bw_)); have n3_ := Aside0.mk (Kd.R_lower (Kd.R_new' ho1 (Kd.R_lt o11_)) (below_size bw_)); have n4_ := Aside0.mk (below_step bw_ hb); clear HO_8; clear HO_13; clear HB; have HO_8 := n0_; have HO_13 := n1_; have HO130 := n2_; have HO132 := n3_; have HB := n4_; clear n0_ n1_ n2_ n3_ n4_; (try clear hb); (try clear hb2); (try clear hk); (try clear hi); (try clear ho0); (try clear ho1); have p133 : 0 ≤ ((ji34) : Int) := oda_; have q133 : (ji34) < (t104.length : Int) := oda_; obtain ⟨ad133, e133, hx133_0⟩ := Kd.at_string (Kd.R_reads' HO_8.out).2.2 (ji34) p133 q133; cases e133; replace p133 := eq_true p133; replace q133 := eq_true q133; obtain ⟨Ao55, co55, eo55⟩ := Kd.R_slice HO132.out; subst eo55) | (go_at_call 23; (with_reducible refine (PWkB.r05_Has.calls k3 _ _ t128 (rdOf ByteArray.empty t104 (ji34)) true _ ?side1 ?side2 A45.out).mono ?_); (case side1 => repeat (first | exact (Kd.R_reads' HO132.out).2.2 | (with_reducible refine Kd.C_alloc ?_ _) | (with_reducible refine Kd.C_drewN ?_ _) | (with_reducible refine Kd.C_drew ?_))); (case side2 => exact (Kd.R_reads' HO132.out).2.1); rintro e w' ⟨rfl, ⟨nd, rfl⟩⟩; (try first | exact ⟨rfl, _, World.drewN_drewN _ _ _⟩ | exact ⟨rfl, _, Eq.trans (World.drewN_drewN _ _ _) (congrArg (World.drewN _) (Nat.add_assoc _ _ _))⟩); have p135 : 0 ≤ ((ji34) : Int) := oda_; have q135 : (ji34) < (t104.length : Int) := oda_; obtain ⟨ad135, e135, hx135_0⟩ := Kd.at_string (Kd.R_reads' HO_8.out).2.2 (ji34) p135 q135; obtain rfl : ad133 = ad135 := (by injection e135); replace p135 := eq_true p135; replace q135 := eq_true q135; obtain ⟨Ao56, co56, eo56⟩ := Kd.R_slice HO130.out; subst eo56) | (go_at_call 23; (with_reducible refine (PWkB.r05_Has.calls k3 _ _ t127 (rdOf ByteArray.empty t104 (ji34)) false _ ?side1 ?side2 A47.out).mono ?_); (case side1 => repeat (first | exact (Kd.R_reads' HO130.out).2.2 | (with_reducible refine Kd.C_alloc ?_ _) | (with_reducible refine Kd.C_drewN ?_ _) | (with_reducible refine Kd.C_drew ?_))); (case side2 => exact (Kd.R_reads' HO130.out).2.1); rintro e w' ⟨rfl, ⟨nd, rfl⟩⟩; (try first | exact ⟨rfl, _, World.drewN_drewN _ _ _⟩ | exact ⟨rfl, _, Eq.trans (World.drewN_drewN _ _ _) (congrArg (World.drewN _) (Nat.add_assoc _ _ _))⟩))))
                go_ret
                exact ⟨by first | rfl | (simp [errW_none, errW_some] <;> rfl) | (simp only [← hji34]; first | rfl | (simp [errW_none, errW_some] <;> rfl)) | (simp [*, errW_none, errW_some] <;> rfl), bw_⟩
              ·
               replace c46 := Bool.eq_false_iff.mpr c46
               subst c46
               have H1 : (some false) = some r := by rw [if_neg (show ¬ (false = true) by decide)] at H; exact H
               clear H
               have H := H1
               clear H1
               obtain rfl := Option.some.inj H
               obtain ⟨Ao57, co57, eo57⟩ := Kd.R_slice HO_13.out
               subst eo57
               go_wp2_with (first | (go_at_call 13; (with_reducible refine (Wk.Gv.closure.calls _ _ x13_3 _ _ l1 t127 t128 _ ?side1 ?side2 ?side3 ?side4 A40.out (HTAB_.out _ (by first | exact Below.refl _ _ | (with_reducible exact Aside0.out (by assumption)) | repeat (first | (with_reducible exact Aside0.out (by assumption)) | apply below_alloc | apply pw_below_drewN | apply below_drew1 | (refine below_set ?_ ?_; rotate_left; (with_reducible exact Aside0.out (by assumption))))))).mono ?_); (case side1 => repeat (first | exact (Kd.R_reads' HO_13.out).2.2 | (with_reducible refine Kd.C_alloc ?_ _) | (with_reducible refine Kd.C_drewN ?_ _) | (with_reducible refine Kd.C_drew ?_))); (case side2 => exact (Kd.R_reads' HO_13.out).2.1); (case side3 => repeat (first | exact (Kd.C_below HR1.out HB.out) | (with_reducible refine Kd.C_alloc ?_ _) | (with_reducible refine Kd.C_drewN ?_ _) | (with_reducible refine Kd.C_drew ?_))); (case side4 => exact HC1.out); rintro e w58 ⟨v129, v131, rfl, ho0, ho1, hb⟩; have n0_ := Aside0.mk (Kd.R_mono (Kd.R_told (Kd.R_told (Kd.R_old o11_ hb) (Kd.R_base ho0)) (Kd.R_base ho1)) (fun _ h_ => h_.1)); have n1_ := Aside0.mk (Kd.R_below o8_ hb); have n2_ := Aside0.mk (Kd.R_lower (Kd.R_new' ho0 (Kd.R_lt o11_)) (below_size bw_)); have n3_ := Aside0.mk (Kd.R_lower (Kd.R_new' ho1 (Kd.R_lt o11_)) (below_size bw_)); have n4_ := Aside0.mk (below_step bw_ hb); clear HO_8; clear HO_13; clear HB; have HO_8 := n0_; have HO_13 := n1_; have HO130 := n2_; have HO132 := n3_; have HB := n4_; clear n0_ n1_ n2_ n3_ n4_; (try clear hb); (try clear hb2); (try clear hk); (try clear hi); (try clear ho0); (try clear ho1); have p133 : 0 ≤ ((ji34) : Int) := oda_; have q133 : (ji34) < (t104.length : Int) := oda_; obtain ⟨ad133, e133, hx133_0⟩ := Kd.at_string (Kd.R_reads' HO_8.out).2.2 (ji34) p133 q133; cases e133; replace p133 := eq_true p133; replace q133 := eq_true q133; obtain ⟨Ao59, co59, eo59⟩ := Kd.R_slice HO132.out; subst eo59) | (go_at_call 23; (with_reducible refine (PWkB.r05_Has.calls k3 _ _ t128 (rdOf ByteArray.empty t104 (ji34)) false _ ?side1 ?side2 A45.out).mono ?_); (case side1 => repeat (first | exact (Kd.R_reads' HO132.out).2.2 | (with_reducible refine Kd.C_alloc ?_ _) | (with_reducible refine Kd.C_drewN ?_ _) | (with_reducible refine Kd.C_drew ?_))); (case side2 => exact (Kd.R_reads' HO132.out).2.1); rintro e w' ⟨rfl, ⟨nd, rfl⟩⟩; (try first | exact ⟨rfl, _, World.drewN_drewN _ _ _⟩ | exact ⟨rfl, _, Eq.trans (World.drewN_drewN _ _ _) (congrArg (World.drewN _) (Nat.add_assoc _ _ _))⟩)))
               repeat (go_quiet (first | (go_at_call 13; (with_reducible refine (Wk.Gv.closure.calls _ _ x13_3 _ _ l1 t127 t128 _ ?side1 ?side2 ?side3 ?side4 A40.out (HTAB_.out _ (by first | exact Below.refl _ _ | (with_reducible exact Aside0.out (by assumption)) | repeat (first | (with_reducible exact Aside0.out (by assumption)) | apply below_alloc | apply pw_below_drewN | apply below_drew1 | (refine below_set ?_ ?_; rotate_left; (with_reducible exact Aside0.out (by assumption))))))).mono ?_); (case side1 => repeat (first | exact (Kd.R_reads' HO_13.out).2.2 | (with_reducible refine Kd.C_alloc ?_ _) | (with_reducible refine Kd.C_drewN ?_ _) | (with_reducible refine Kd.C_drew ?_))); (case side2 => exact (Kd.R_reads' HO_13.out).2.1); (case side3 => repeat (first | exact (Kd.C_below HR1.out HB.out) | (with_reducible refine Kd.C_alloc ?_ _) | (with_reducible refine Kd.C_drewN ?_ _) | (with_reducible refine Kd.C_drew ?_))); (case side4 => exact HC1.out); rintro e w58 ⟨v129, v131, rfl, ho0, ho1, hb⟩; have n0_ := Aside0.mk (Kd.R_mono (Kd.R_told (Kd.R_told (Kd.R_old o11_ hb) (Kd.R_base ho0)) (Kd.R_base ho1)) (fun _ h_ => h_.1)); have n1_ := Aside0.mk (Kd.R_below o8_ hb); have n2_ := Aside0.mk (Kd.R_lower (Kd.R_new' ho0 (Kd.R_lt o11_)) (below_size bw_)); have n3_ := Aside0.mk (Kd.R_lower (Kd.R_new' ho1 (Kd.R_lt o11_)) (below_size bw_)); have n4_ := Aside0.mk (below_step bw_ hb); clear HO_8; clear HO_13; clear HB; have HO_8 := n0_; have HO_13 := n1_; have HO130 := n2_; have HO132 := n3_; have HB := n4_; clear n0_ n1_ n2_ n3_ n4_; (try clear hb); (try clear hb2); (try clear hk); (try clear hi); (try clear ho0); (try clear ho1); have p133 : 0 ≤ ((ji34) : Int) := oda_; have q133 : (ji34) < (t104.length : Int) := oda_; obtain ⟨ad133, e133, hx133_0⟩ := Kd.at_string (Kd.R_reads' HO_8.out).2.2 (ji34) p133 q133; cases e133; replace p133 := eq_true p133; replace q133 := eq_true q133; obtain ⟨Ao59, co59, eo59⟩ := Kd.R_slice HO132.out; subst eo59) | (go_at_call 23; (with_reducible refine (PWkB.r05_Has.calls k3 _ _ t128 (rdOf ByteArray.empty t104 (ji34)) false _ ?side1 ?side2 A45.out).mono ?_); (case side1 => repeat (first | exact (Kd.R_reads' HO132.out).2.2 | (with_reducible refine Kd.C_alloc ?_ _) | (with_reducible refine Kd.C_drewN ?_ _) | (with_reducible refine Kd.C_drew ?_))); (case side2 => exact (Kd.R_reads' HO132.out).2.1); rintro e w' ⟨rfl, ⟨nd, rfl⟩⟩; (try first | exact ⟨rfl, _, World.drewN_drewN _ _ _⟩ | exact ⟨rfl, _, Eq.trans (World.drewN_drewN _ _ _) (congrArg (World.drewN _) (Nat.add_assoc _ _ _))⟩))); try go_wp2_with (first | (go_at_call 13; (with_reducible refine (Wk.Gv.closure.calls _ _ x13_3 _ _ l1 t127 t128 _ ?side1 ?side2 ?side3 ?side4 A40.out (HTAB_.out _ (by first | exact Below.refl _ _ | (with_reducible exact Aside0.out (by assumption)) | repeat (first | (with_reducible exact Aside0.out (by assumption)) | apply below_alloc | apply pw_below_drewN | apply below_drew1 | (refine below_set ?_ ?_; rotate_left; (with_reducible exact Aside0.out (by assumption))))))).mono ?_); (case side1 => repeat (first | exact (Kd.R_reads' HO_13.out).2.2 | (with_reducible refine Kd.C_alloc ?_ _) | (with_reducible refine Kd.C_drewN ?_ _) | (with_reducible refine Kd.C_drew ?_))); (case side2 => exact (Kd.R_reads' HO_13.out).2.1); (case side3 => repeat (first | exact (Kd.C_below HR1.out HB.out) | (with_reducible refine Kd.C_alloc ?_ _) | (with_reducible refine Kd.C_drewN ?_ _) | (with_reducible refine Kd.C_drew ?_))); (case side4 => exact HC1.out); rintro e w58 ⟨v129, v131, rfl, ho0, ho1, hb⟩; have n0_ := Aside0.mk (Kd.R_mono (Kd.R_told (Kd.R_told (Kd.R_old o11_ hb) (Kd.R_base ho0)) (Kd.R_base ho1)) (fun _ h_ => h_.1)); have n1_ := Aside0.mk (Kd.R_below o8_ hb); have n2_ := Aside0.mk (Kd.R_lower (Kd.R_new' ho0 (Kd.R_lt o11_)) (below_size bw_)); have n3_ := Aside0.mk (Kd.R_lower (Kd.R_new' ho1 (Kd.R_lt o11_)) (below_size bw_)); have n4_ := Aside0.mk (below_step bw_ hb); clear HO_8; clear HO_13; clear HB; have HO_8 := n0_; have HO_13 := n1_; have HO130 := n2_; have HO132 := n3_; have HB := n4_; clear n0_ n1_ n2_ n3_ n4_; (try clear hb); (try clear hb2); (try clear hk); (try clear hi); (try clear ho0); (try clear ho1); have p133 : 0 ≤ ((ji34) : Int) := oda_; have q133 : (ji34) < (t104.length : Int) := oda_; obtain ⟨ad133, e133, hx133_0⟩ := Kd.at_string (Kd.R_reads' HO_8.out).2.2 (ji34) p133 q133; cases e133; replace p133 := eq_true p133; replace q133 := eq_true q133; obtain ⟨Ao59, co59, eo59⟩ := Kd.R_slice HO132.out; subst eo59) | (go_at_call 23; (with_reducible refine (PWkB.r05_Has.calls k3 _ _ t128 (rdOf ByteArray.empty t104 (ji34)) false _ ?side1 ?side2 A45.out).mono ?_); (case side1 => repeat (first | exact (Kd.R_reads' HO132.out).2.2 | (with_reducible refine Kd.C_alloc ?_ _) | (with_reducible refine Kd.C_drewN ?_ _) | (with_reducible refine Kd.C_drew ?_))); (case side2 => exact (Kd.R_reads' HO132.out).2.1); rintro e w' ⟨rfl, ⟨nd, rfl⟩⟩; (try first | exact ⟨rfl, _, World.drewN_drewN _ _ _⟩ | exact ⟨rfl, _, Eq.trans (World.drewN_drewN _ _ _) (congrArg (World.drewN _) (Nat.add_assoc _ _ _))⟩))))
               go_ret
               exact ⟨by first | rfl | (simp [errW_none, errW_some] <;> rfl) | (simp only [← hji34]; first | rfl | (simp [errW_none, errW_some] <;> rfl)) | (simp [*, errW_none, errW_some] <;> rfl), bw_⟩
             ·
              rw [if_neg c44] at H
              exact absurd H (by simp)
            ·
             rw [if_neg c43] at H
             exact absurd H (by simp)
           ·
            replace c41 := Bool.eq_false_iff.mpr c41
            subst c41
            have H1 : (some false) = some r := by rw [if_neg (show ¬ (false = true) by decide)] at H; exact H
            clear H
            have H := H1
            clear H1
            obtain rfl := Option.some.inj H
            obtain ⟨Ao60, co60, eo60⟩ := Kd.R_slice HO_13.out
            subst eo60
            go_wp2_with (first | (go_at_call 13; (with_reducible refine (Wk.Gv.closure.calls _ _ x13_3 _ _ l1 t127 t128 _ ?side1 ?side2 ?side3 ?side4 A40.out (HTAB_.out _ (by first | exact Below.refl _ _ | (with_reducible exact Aside0.out (by assumption)) | repeat (first | (with_reducible exact Aside0.out (by assumption)) | apply below_alloc | apply pw_below_drewN | apply below_drew1 | (refine below_set ?_ ?_; rotate_left; (with_reducible exact Aside0.out (by assumption))))))).mono ?_); (case side1 => repeat (first | exact (Kd.R_reads' HO_13.out).2.2 | (with_reducible refine Kd.C_alloc ?_ _) | (with_reducible refine Kd.C_drewN ?_ _) | (with_reducible refine Kd.C_drew ?_))); (case side2 => exact (Kd.R_reads' HO_13.out).2.1); (case side3 => repeat (first | exact (Kd.C_below HR1.out HB.out) | (with_reducible refine Kd.C_alloc ?_ _) | (with_reducible refine Kd.C_drewN ?_ _) | (with_reducible refine Kd.C_drew ?_))); (case side4 => exact HC1.out); rintro e w61 ⟨v129, v131, rfl, ho0, ho1, hb⟩; have n0_ := Aside0.mk (Kd.R_mono (Kd.R_told (Kd.R_told (Kd.R_old o11_ hb) (Kd.R_base ho0)) (Kd.R_base ho1)) (fun _ h_ => h_.1)); have n1_ := Aside0.mk (Kd.R_below o8_ hb); have n2_ := Aside0.mk (Kd.R_lower (Kd.R_new' ho0 (Kd.R_lt o11_)) (below_size bw_)); have n3_ := Aside0.mk (Kd.R_lower (Kd.R_new' ho1 (Kd.R_lt o11_)) (below_size bw_)); have n4_ := Aside0.mk (below_step bw_ hb); clear HO_8; clear HO_13; clear HB; have HO_8 := n0_; have HO_13 := n1_; have HO130 := n2_; have HO132 := n3_; have HB := n4_; clear n0_ n1_ n2_ n3_ n4_; (try clear hb); (try clear hb2); (try clear hk); (try clear hi); (try clear ho0); (try clear ho1)))
            repeat (go_quiet (first | (go_at_call 13; (with_reducible refine (Wk.Gv.closure.calls _ _ x13_3 _ _ l1 t127 t128 _ ?side1 ?side2 ?side3 ?side4 A40.out (HTAB_.out _ (by first | exact Below.refl _ _ | (with_reducible exact Aside0.out (by assumption)) | repeat (first | (with_reducible exact Aside0.out (by assumption)) | apply below_alloc | apply pw_below_drewN | apply below_drew1 | (refine below_set ?_ ?_; rotate_left; (with_reducible exact Aside0.out (by assumption))))))).mono ?_); (case side1 => repeat (first | exact (Kd.R_reads' HO_13.out).2.2 | (with_reducible refine Kd.C_alloc ?_ _) | (with_reducible refine Kd.C_drewN ?_ _) | (with_reducible refine Kd.C_drew ?_))); (case side2 => exact (Kd.R_reads' HO_13.out).2.1); (case side3 => repeat (first | exact (Kd.C_below HR1.out HB.out) | (with_reducible refine Kd.C_alloc ?_ _) | (with_reducible refine Kd.C_drewN ?_ _) | (with_reducible refine Kd.C_drew ?_))); (case side4 => exact HC1.out); rintro e w61 ⟨v129, v131, rfl, ho0, ho1, hb⟩; have n0_ := Aside0.mk (Kd.R_mono (Kd.R_told (Kd.R_told (Kd.R_old o11_ hb) (Kd.R_base ho0)) (Kd.R_base ho1)) (fun _ h_ => h_.1)); have n1_ := Aside0.mk (Kd.R_below o8_ hb); have n2_ := Aside0.mk (Kd.R_lower (Kd.R_new' ho0 (Kd.R_lt o11_)) (below_size bw_)); have n3_ := Aside0.mk (Kd.R_lower (Kd.R_new' ho1 (Kd.R_lt o11_)) (below_size bw_)); have n4_ := Aside0.mk (below_step bw_ hb); clear HO_8; clear HO_13; clear HB; have HO_8 := n0_; have HO_13 := n1_; have HO130 := n2_; have HO132 := n3_; have HB := n4_; clear n0_ n1_ n2_ n3_ n4_; (try clear hb); (try clear hb2); (try clear hk); (try clear hi); (try clear ho0); (try clear ho1))); try go_wp2_with (first | (go_at_call 13; (with_reducible refine (Wk.Gv.closure.calls _ _ x13_3 _ _ l1 t127 t128 _ ?side1 ?side2 ?side3 ?side4 A40.out (HTAB_.out _ (by first | exact Below.refl _ _ | (with_reducible exact Aside0.out (by assumption)) | repeat (first | (with_reducible exact Aside0.out (by assumption)) | apply below_alloc | apply pw_below_drewN | apply below_drew1 | (refine below_set ?_ ?_; rotate_left; (with_reducible exact Aside0.out (by assumption))))))).mono ?_); (case side1 => repeat (first | exact (Kd.R_reads' HO_13.out).2.2 | (with_reducible refine Kd.C_alloc ?_ _) | (with_reducible refine Kd.C_drewN ?_ _) | (with_reducible refine Kd.C_drew ?_))); (case side2 => exact (Kd.R_reads' HO_13.out).2.1); (case side3 => repeat (first | exact (Kd.C_below HR1.out HB.out) | (with_reducible refine Kd.C_alloc ?_ _) | (with_reducible refine Kd.C_drewN ?_ _) | (with_reducible refine Kd.C_drew ?_))); (case side4 => exact HC1.out); rintro e w61 ⟨v129, v131, rfl, ho0, ho1, hb⟩; have n0_ := Aside0.mk (Kd.R_mono (Kd.R_told (Kd.R_told (Kd.R_old o11_ hb) (Kd.R_base ho0)) (Kd.R_base ho1)) (fun _ h_ => h_.1)); have n1_ := Aside0.mk (Kd.R_below o8_ hb); have n2_ := Aside0.mk (Kd.R_lower (Kd.R_new' ho0 (Kd.R_lt o11_)) (below_size bw_)); have n3_ := Aside0.mk (Kd.R_lower (Kd.R_new' ho1 (Kd.R_lt o11_)) (below_size bw_)); have n4_ := Aside0.mk (below_step bw_ hb); clear HO_8; clear HO_13; clear HB; have HO_8 := n0_; have HO_13 := n1_; have HO130 := n2_; have HO132 := n3_; have HB := n4_; clear n0_ n1_ n2_ n3_ n4_; (try clear hb); (try clear hb2); (try clear hk); (try clear hi); (try clear ho0); (try clear ho1))))
            go_ret
            exact ⟨er_, bw_⟩
end Go.Proofs.YtehmhfbfgniekaaGreatDoor.PWalkLess

namespace Go.Proofs.YtehmhfbfgniekaaGreatDoor.Wk
set_option linter.unusedVariables false
set_option linter.unusedSimpArgs false
open Go Go.RowKit Go.Proofs.YtehmhfbfgniekaaGreatDoorW.PrintWords Go.Proofs.YtehmhfbfgniekaaGreatDoorW.PrintLast Go.Proofs.YtehmhfbfgniekaaGreatDoorW.PrintMore Ob PObBase PObDoc PObGet PObRt PWkB
theorem loop_ev {α : Type} {n : Nat} {F : Nat → Int → Option α} {r : α} (he : Ev (fun k => F k (n : Int)) r) (hs : ∀ i, i < n → Ev (fun k => F k ((i + 1 : Nat) : Int)) r → Ev (fun k => F k (i : Int)) r) : Ev (fun k => F k 0) r := by
  have h : ∀ d i : Nat, n - i = d → i ≤ n → Ev (fun k => F k (i : Int)) r := by
    intro d
    induction d with
    | zero => intro i h1 h2; obtain rfl : i = n := by omega
              exact he
    | succ d ih => intro i h1 h2; exact hs i (by omega) (ih (i + 1) (by omega) (by omega))
  exact h n 0 (by omega) (by omega)
theorem nxt_len (l : List Hd) (s : ByteArray) : (nxt l s).length ≤ 256 := by
  unfold nxt wantsN
  rw [List.length_map]
  cases fnd l s with
  | none => exact Nat.zero_le _
  | some o => exact wants_len _ _
theorem come_len {l : List Hd} {tips xs : List ByteArray} (hn : xs.Nodup) (h : ∀ s ∈ xs, Reach (nxt l) tips s) : xs.length ≤ tips.length + l.length * 256 := by
  have hsub : ∀ s, Reach (nxt l) tips s → s ∈ tips ++ (l.map (·.f0)).flatMap (nxt l) := fun s h => by
    cases h with
    | tip h => exact List.mem_append_left _ h
    | step h ht =>
      rename_i t
      refine List.mem_append_right _ (List.mem_flatMap.2 ⟨t, ?_, ht⟩)
      rcases nxt_key l t with hk | hk
      · exact hk
      · rw [hk] at ht; cases ht
  have h1 := hn.length_le_of_subset (l₂ := tips ++ (l.map (·.f0)).flatMap (nxt l)) (fun s hs => hsub s (h s hs))
  have h2 : ∀ ks : List ByteArray, (ks.flatMap (nxt l)).length ≤ ks.length * 256 := fun ks => by
    induction ks with
    | nil => simp
    | cons k r ih =>
      rw [List.flatMap_cons, List.length_append, List.length_cons]
      have := nxt_len l k
      omega
  have h3 := h2 (l.map (·.f0))
  rw [List.length_map] at h3
  rw [List.length_append] at h1
  omega
theorem there_le {l : List Hd} {tips : List ByteArray} : (thereL l tips).length ≤ tips.length + l.length * 256 := come_len (rises_there l tips).nodup (fun s hs => (there_mem.1 hs).1)
theorem lack_le {l : List Hd} {tips : List ByteArray} : (lackL l tips).length ≤ tips.length + l.length * 256 := come_len (rises_lack l tips).nodup (fun s hs => (lack_mem.1 hs).1)
theorem csm {l : List Hd} {tips : List ByteArray} (h : Zh l) (h1 : Zt tips) : Gv.Csm l tips := ⟨h.hsh, h1.tsh, h1.len, h.len⟩
theorem texts_ev (a : List ByteArray) (hl : a.length ≤ 1000000000) : Ev (fun k => r04_SameTexts.f k a a) true := by
  refine Ev.congr (fun k => by rw [r04_SameTexts.f, if_pos rfl]) (loop_ev (n := a.length) (F := fun k i => r04_SameTexts.l0 k a a i) ?_ (fun i hi ih => ?_))
  · refine Ev.step (f := fun _ => some true) (fun k => ?_) (Ev.now _)
    simp only [r04_SameTexts.l0]
    rw [if_neg (by omega)]
  · refine Ev.step (fun k => ?_) ih
    simp only [r04_SameTexts.l0]
    rw [if_pos (by omega), if_pos (by omega), if_pos (by omega), if_pos (by simp), wr1 hi (by omega)]
theorem pick_len (l : List Hd) (ids : List ByteArray) : (pickL l ids).length ≤ l.length := List.length_filter_le _ _
end Go.Proofs.YtehmhfbfgniekaaGreatDoor.Wk
