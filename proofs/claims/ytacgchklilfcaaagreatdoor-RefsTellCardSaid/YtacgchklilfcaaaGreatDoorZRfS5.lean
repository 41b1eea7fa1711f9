/- Joined texts: RfApply, BldS, RfPut. No condition but what stands in each. -/
import Derived.Test.YtacgchklilfcaaaGreatDoorZRfS4
import Derived.Test.YtacgchklilfcaaaGreatDoorProg
import Derived.Below
import Derived.Deep.Draws
import Derived.Deep.AppendLies
import Derived.Maps.AppendAt
import Derived.OwnWalk
import Derived.Laws.BytesArg
import Derived.Laws.MakeOwn
import Derived.Laws.OwnMore
import Derived.Deep.OwnRows
import Derived.Tactics
import Derived.Lib.ConvBytes
import Derived.Laws.Slices
import Derived.WalkKit
import Derived.KernelRfl
import Derived.RowKit3
import Derived.Deep.LoopGhost
import Derived.Deep.QuietTactic
import Derived.BigQuiet
import Derived.WideLaws
import Derived.Deep.DeepCutAuto
import Derived.Deep.CutBlock
import Derived.Deep.RegionHeld3
import Derived.Laws.Rows
import Derived.Lib.AppendStr
import Derived.ArgAppend
import Derived.Laws.IdiomCopy
import Derived.OrdersHeld
import Derived.Laws.BitsLemmas
import Derived.RowKit
import Derived.Test.YtacgchklilfcaaaGreatDoorZWMore
import Derived.BigRegion
import Derived.Shelf.Abstract
import Derived.Test.YtacgchklilfcaaaGreatDoorZWLast
import Derived.Test.YtacgchklilfcaaaGreatDoorZWWords
import Derived.Test.YtacgchklilfcaaaGreatDoorRows
import Derived.Lib.OthersKept
import Derived.Lib.FrozenHead2
import Derived.Lib.Builder
import Derived.Test.YtacgchklilfcaaaGreatDoorZShelf
namespace Go.Proofs.YtacgchklilfcaaaGreatDoor.Rf
set_option linter.unusedVariables false
set_option linter.unusedSimpArgs false
open Go Go.RowKit Go.Proofs.YtacgchklilfcaaaGreatDoorW.PrintWords Go.Proofs.YtacgchklilfcaaaGreatDoorW.PrintLast Go.Proofs.YtacgchklilfcaaaGreatDoorW.PrintMore PRfBase Mp
def bothB (a b : ByteArray) : Bool := aboveB a b || aboveB b a
set_option maxHeartbeats 4000000 in
set_option maxRecDepth 100000 in
theorem apply11 (x : ByteArray) (y : Ref) (xb : Nat) (hx : x.size ≤ 1000000000) (hy : y.f0.size ≤ 1000000000) (w : World) (h : w.cell? ⟨xb, 0, none⟩ = some (.string x)) :
    Calls Tryz.prog 27 #[.agg #[.string y.f0, .string y.f1], .pointer (some ⟨xb, 0, none⟩)] w fun e w' => e = .returned (.bool (bothB x y.f0)) ∧ Below w.heap.size w w' := by
  obtain ⟨w0, hw0⟩ : ∃ w0, w.alloc (.cells #[.string y.f0, .string y.f1] 46) = w0 := ⟨_, rfl⟩
  have hb0 : Below w.heap.size w w0 := by rw [← hw0]; exact (Below.refl _ _).alloc (Nat.le_refl _) _
  have hnew : w0.heap[w.heap.size]? = some (.cells #[.string y.f0, .string y.f1] 46 (0, 0)) := by rw [← hw0]; exact blk_new w _
  have hd0 : w0.cell? ⟨w.heap.size, 0, none⟩ = some (.string y.f0) := (blk_cell hnew 0).trans rfl
  have h0 := pw_cell_below hb0 h
  have HC1 := As.mk (above_walk x y.f0 (by omega) (by omega))
  have HC2 := As.mk (above_walk y.f0 x (by omega) (by omega))
  go_enter Tryz.func27, Tryz.ntmps27
  go_wp2_with (fail)
  refine (HC1.out _).mono ?_
  rintro e w1 ⟨rfl, hb⟩
  have hd1 := pw_cell_below hb hd0
  have h1 := pw_cell_below hb h0
  have HB1 := As.mk (hb0.trans (hb.mono hb0.size))
  clear hb
  rcases ha : aboveB x y.f0 with _ | _
  · go_wp2_with (fail)
    refine (HC2.out _).mono ?_
    rintro e w2 ⟨rfl, hb⟩
    have HB2 := As.mk (HB1.out.trans (hb.mono HB1.out.size))
    clear hb
    go_wp2_with (fail)
    go_ret
    exact ⟨by rw [bothB, ha]; rfl, HB2.out⟩
  · go_wp2_with (fail)
    go_ret
    exact ⟨by rw [bothB, ha]; rfl, HB1.out⟩
def inWay (out : List Ref) (x : Upd) : Bool := decide (x.f2.size ≠ 0) && out.any (fun y => bothB x.f0 y.f0)
set_option maxHeartbeats 4000000 in
set_option maxRecDepth 100000 in
theorem apply1 (x : Upd) (ob : Nat) (out : List Ref) (Ao : Option Addr) (no co : Nat) (hx : x.f0.size ≤ 1000000000) (hsh : ∀ y ∈ out, y.f0.size ≤ 1000000000) (w : World) (h : w.cell? ⟨ob, 0, none⟩ = some (.slice Ao no co)) (hC : Kd.C k46 w Ao no out) (hno : out.length = no) (hco : no ≤ co) :
    Calls Tryz.prog 25 #[.agg #[.string x.f0, .string x.f1, .string x.f2], .pointer (some ⟨ob, 0, none⟩)] w fun e w' => e = .returned (.bool (inWay out x)) ∧ Below w.heap.size w w' := by
  obtain ⟨w0, hw0⟩ : ∃ w0, w.alloc (.cells #[.string x.f0, .string x.f1, .string x.f2] 40) = w0 := ⟨_, rfl⟩
  have hb0 : Below w.heap.size w w0 := by rw [← hw0]; exact (Below.refl _ _).alloc (Nat.le_refl _) _
  have hnew : w0.heap[w.heap.size]? = some (.cells #[.string x.f0, .string x.f1, .string x.f2] 40 (0, 0)) := by rw [← hw0]; exact blk_new w _
  have hd0 : w0.cell? ⟨w.heap.size, 0, none⟩ = some (.string x.f0) := (blk_cell hnew 0).trans rfl
  have hd2 : w0.cell? ⟨w.heap.size, 2, none⟩ = some (.string x.f2) := (blk_cell hnew 2).trans rfl
  have h0 := pw_cell_below hb0 h
  have HB0 := As.mk hb0
  have HAS := As.mk (hasRef1 Ao co no out 27 (.pointer (some ⟨w.heap.size, 0, none⟩)) (fun y => bothB x.f0 y.f0) w0 (Kd.C_below hC hb0) hno hco (enters_of Tryz.func27 (by kernel_rfl) rfl) (fun W y hW hy => apply11 x.f0 y w.heap.size hx (hsh y hy) W (pw_cell_below hW hd0)))
  clear hC hsh
  go_enter Tryz.func25, Tryz.ntmps25
  by_cases h2 : x.f2.size = 0
  · have hl2 : x.f2.toList = [] := (toL_nil _).2 h2
    go_wp2_with (fail)
    go_ret
    refine ⟨?_, HB0.out⟩
    rw [inWay, decide_eq_false (by omega)]; rfl
  · have hl2 : x.f2.toList ≠ [] := fun e => h2 ((toL_nil _).1 e)
    go_wp2_with (fail)
    refine HAS.out.mono ?_
    rintro e w1 ⟨rfl, hb⟩
    have HB1 := As.mk (HB0.out.trans (hb.mono HB0.out.size))
    clear hb
    go_wp2_with (fail)
    go_ret
    refine ⟨?_, HB1.out⟩
    show Ending.returned (.bool (!x.f2.toList.isEmpty && out.any (fun y => bothB x.f0 y.f0))) = _
    rw [inWay, decide_eq_true h2, List.isEmpty_eq_false_iff.2 hl2]; rfl
def emb (f : ByteArray → Option ByteArray) : ByteArray → Option Value := fun s => (f s).map .string
def updF (f : ByteArray → Option ByteArray) (k v : ByteArray) : ByteArray → Option ByteArray := fun s => if s = k then some v else f s
def delF (f : ByteArray → Option ByteArray) (k : ByteArray) : ByteArray → Option ByteArray := fun s => if s = k then none else f s
theorem emb_put (f : ByteArray → Option ByteArray) (k v : ByteArray) : put (emb f) k (.string v) = emb (updF f k v) := by
  funext s
  unfold put emb updF
  by_cases h : s = k
  · rw [if_pos h, if_pos h]; rfl
  · rw [if_neg h, if_neg h]
theorem emb_del (f : ByteArray → Option ByteArray) (k : ByteArray) : del (emb f) k = emb (delF f k) := by
  funext s
  unfold del emb delF
  by_cases h : s = k
  · rw [if_pos h, if_pos h]; rfl
  · rw [if_neg h, if_neg h]
def atF (f : ByteArray → Option ByteArray) (k : ByteArray) : ByteArray := (f k).getD ⟨#[]⟩
theorem emb_at (f : ByteArray → Option ByteArray) (k : ByteArray) : (emb f k).getD (.string ⟨#[]⟩) = .string (atF f k) := by
  unfold emb atF
  cases f k <;> rfl
def mapL (l : List Ref) : ByteArray → Option ByteArray := l.foldl (fun f x => updF f x.f0 x.f1) (fun _ => none)
def stepU (f : ByteArray → Option ByteArray) (x : Upd) : ByteArray → Option ByteArray := if x.f2.size = 0 then delF f x.f0 else updF f x.f0 x.f2
def runU (f : ByteArray → Option ByteArray) (i : Nat) : List Upd → Nat ⊕ (ByteArray → Option ByteArray)
  | [] => .inr f
  | x :: r => if atF f x.f0 = x.f1 then runU (stepU f x) (i + 1) r else .inl i
noncomputable def namesF (f : ByteArray → Option ByteArray) : List ByteArray := by classical exact if h : ∃ ks, Mp.KeysOf (emb f) ks then h.choose else []
theorem namesF_eq {f : ByteArray → Option ByteArray} {ks : List ByteArray} (h : Mp.KeysOf (emb f) ks) : ks = namesF f := by
  have hex : ∃ ks, Mp.KeysOf (emb f) ks := ⟨ks, h⟩
  rw [namesF, dif_pos hex]
  exact keysOf_unique h hex.choose_spec
noncomputable def refsF (f : ByteArray → Option ByteArray) : List Ref := (namesF f).map (fun s => ⟨s, atF f s⟩)
noncomputable def applyL (l : List Ref) (u : List Upd) : List Ref × Int × Int :=
  if rightB l = false ∨ u.length = 0 ∨ 16 < u.length then ([], 1, 0)
  else if 0 ≤ wrongI u then (l, 1, wrongI u)
  else match runU (mapL l) 0 u with
    | .inl i => (l, 92, (i : Int))
    | .inr f => if 0 ≤ fst (inWay (refsF f)) u then (l, 91, fst (inWay (refsF f)) u) else if 64 < (refsF f).length then (l, 2, 0) else (refsF f, 0, 0)
theorem mapL_step {l : List Ref} {i : Nat} {x : Ref} (hx : l[i]? = some x) : mapL (l.take (i + 1)) = updF (mapL (l.take i)) x.f0 x.f1 := by
  have := List.take_add_one (l := l) (i := i)
  rw [hx] at this
  rw [this]
  simp [mapL, List.foldl_append]
theorem del_upd (f : ByteArray → Option ByteArray) (k v : ByteArray) : delF (updF f k v) k = delF f k := by
  funext s
  unfold delF updF
  by_cases h : s = k
  · rw [if_pos h, if_pos h]
  · rw [if_neg h, if_neg h, if_neg h]
theorem runU_at {u : List Upd} {i : Nat} {x : Upd} (hx : u[i]? = some x) (f : ByteArray → Option ByteArray) : runU f i (u.drop i) = if atF f x.f0 = x.f1 then runU (stepU f x) (i + 1) (u.drop (i + 1)) else .inl i := by
  obtain ⟨h1, h2⟩ := List.getElem?_eq_some_iff.1 hx
  rw [List.drop_eq_getElem_cons h1, h2]
  rfl
theorem stepU_dom {P : ByteArray → Prop} {f : ByteArray → Option ByteArray} (hf : ∀ s, (f s).isSome = true → P s) {x : Upd} (hx : P x.f0) : ∀ s, (stepU f x s).isSome = true → P s := by
  intro s h
  unfold stepU at h
  by_cases h2 : x.f2.size = 0
  · rw [if_pos h2] at h
    unfold delF at h
    by_cases e : s = x.f0
    · rw [if_pos e] at h; cases h
    · rw [if_neg e] at h; exact hf s h
  · rw [if_neg h2] at h
    unfold updF at h
    by_cases e : s = x.f0
    · exact e.symm ▸ hx
    · rw [if_neg e] at h; exact hf s h
theorem runU_dom {P : ByteArray → Prop} : ∀ (u : List Upd) (f : ByteArray → Option ByteArray) (i : Nat), (∀ s, (f s).isSome = true → P s) → (∀ x ∈ u, P x.f0) → ∀ g, runU f i u = .inr g → ∀ s, (g s).isSome = true → P s
  | [], f, i, hf, _, g, h => by cases h; exact hf
  | x :: r, f, i, hf, hu, g, h => by
    rw [runU] at h
    split at h
    · exact runU_dom r _ _ (stepU_dom hf (hu x List.mem_cons_self)) (fun y hy => hu y (List.mem_cons_of_mem _ hy)) g h
    · cases h
theorem foldl_dom {P : ByteArray → Prop} : ∀ (l : List Ref) (f : ByteArray → Option ByteArray), (∀ s, (f s).isSome = true → P s) → (∀ x ∈ l, P x.f0) → ∀ s, ((l.foldl (fun f x => updF f x.f0 x.f1) f) s).isSome = true → P s
  | [], f, hf, _ => hf
  | x :: r, f, hf, hu => by
    refine foldl_dom r _ (fun s h => ?_) (fun y hy => hu y (List.mem_cons_of_mem _ hy))
    replace h : (updF f x.f0 x.f1 s).isSome = true := h
    unfold updF at h
    by_cases e : s = x.f0
    · exact e.symm ▸ hu x List.mem_cons_self
    · rw [if_neg e] at h; exact hf s h
theorem mapL_dom {P : ByteArray → Prop} (l : List Ref) (h : ∀ x ∈ l, P x.f0) : ∀ s, (mapL l s).isSome = true → P s := foldl_dom l _ (fun s h => by cases h) h
set_option maxHeartbeats 16000000 in
set_option maxRecDepth 100000 in
theorem apply_walk (P0 : Nat → Prop) (A0 : Option Addr) (c0 n0 : Nat) (l : List Ref) (A1 : Option Addr) (c1 n1 : Nat) (u : List Upd) (w : World) (hs0 : Kd.V k46 46 w w.heap.size (fun k_ => P0 k_) (.slice A0 n0 c0) l) (hC1 : Kd.C k40 w A1 n1 u) (hn1 : u.length = n1) (hc1 : n1 ≤ c1) (hsl : Zsh l) (hsu : Ush u) :
    Calls Tryz.prog 7 #[.slice A0 n0 c0, .slice A1 n1 c1] w fun e w' => ∃ v, e = .returned (.tuple #[v, .int .i64 (applyL l u).2.1, .int .i64 (applyL l u).2.2]) ∧ Kd.V k46 46 w' w.heap.size (fun k_ => P0 k_ ∨ w.heap.size ≤ k_) v (applyL l u).1 ∧ Below w.heap.size w w' := by
  obtain ⟨hn0, hc0, hF0⟩ := Kd.V_at hs0
  have HV0 := As.mk (Kd.V_mono (ok' := fun k_ => P0 k_ ∨ w.heap.size ≤ k_) hs0 (fun _ h => .inl h))
  have hC0 : Kd.C k46 w A0 n0 l := by rw [hn0]; exact Kd.F_now hF0
  have HC0 := As.mk hC0
  have HN0 := As.mk hn0.symm
  have HC1 := As.mk hC1
  have HN1 := As.mk hn1
  have HSL := As.mk hsl
  have HSU := As.mk hsu
  have hmax0 := Kd.C_max hC0
  have hmax1 := Kd.C_max hC1
  have HRT := As.mk (right_walk A0 c0 n0 l w hC0 hn0.symm hc0 hsl)
  have hmm := @run_makeMap Tryz.prog
  have hmax : Go.maxLen = 9223372036854775807 := rfl
  clear hs0 hn0 hF0 hC0 hC1 hn1 hsl hsu
  go_enter Tryz.func7, Tryz.ntmps7
  go_wp2_with (fail)
  refine HRT.out.mono ?_
  rintro e w1 ⟨rfl, hb⟩
  have HB1 := As.mk hb
  clear hb
  have HE1 : ∀ (h : rightB l = false ∨ u.length = 0 ∨ 16 < u.length), applyL l u = ([], 1, 0) := fun h => by rw [applyL, if_pos h]
  rcases hrt : rightB l with _ | _
  · have HA := HE1 (.inl hrt)
    go_wp2_with (fail)
    go_ret3
    rw [HA]
    exact ⟨_, rfl, Kd.V_nil _ _ _ _ _, HB1.out⟩
  have h64 : n0 ≤ 64 := by
    have := hrt
    rw [rightB, Bool.and_eq_true, decide_eq_true_iff, HN0.out] at this
    exact this.2
  by_cases hz : n1 = 0
  · have HA := HE1 (.inr (.inl (by rw [HN1.out, hz])))
    subst hz
    go_wp2_with (fail)
    go_ret3
    rw [HA]
    exact ⟨_, rfl, Kd.V_nil _ _ _ _ _, HB1.out⟩
  by_cases h16 : 16 < n1
  · have HA := HE1 (.inr (.inr (by rw [HN1.out]; exact h16)))
    go_wp2_with (fail)
    go_ret3
    rw [HA]
    exact ⟨_, rfl, Kd.V_nil _ _ _ _ _, HB1.out⟩
  have HG : As (¬ (rightB l = false ∨ u.length = 0 ∨ 16 < u.length)) := ⟨by rw [hrt, HN1.out]; simp; omega⟩
  clear HE1
  have hz1 : ¬ ((n1 : Int) = 0) := by omega
  have h161 : ¬ ((16 : Int) < n1) := by omega
  have hz2 : ((n1 : Int) == 0) = false := by rw [beq_eq_false_iff_ne]; exact hz1
  have HWR := As.mk (wrong_walk A1 c1 n1 u w1 (Kd.C_below HC1.out HB1.out) HN1.out hc1 HSU.out (by omega))
  go_wp2_with (fail)
  refine HWR.out.mono ?_
  rintro e w2 ⟨rfl, hb⟩
  have HB2 := As.mk (HB1.out.trans (hb.mono HB1.out.size))
  clear hb HWR
  by_cases hwi : 0 ≤ wrongI u
  · have HA : As (applyL l u = (l, 1, wrongI u)) := ⟨by rw [applyL, if_neg HG.out, if_pos hwi]⟩
    go_wp2_with (fail)
    go_ret3
    rw [HA.out]
    exact ⟨_, rfl, Kd.V_below (HV0.out) HB2.out, HB2.out⟩
  have HA : As (applyL l u = match runU (mapL l) 0 u with
    | .inl i => (l, 92, (i : Int))
    | .inr f => if 0 ≤ fst (inWay (refsF f)) u then (l, 91, fst (inWay (refsF f)) u) else if 64 < (refsF f).length then (l, 2, 0) else (refsF f, 0, 0)) := ⟨by rw [applyL, if_neg HG.out, if_neg hwi]⟩
  have HM0 := As.mk (Mp.mapOf_made w2 Tryz.prog 9)
  have HB3 : As (Below w.heap.size w (w2.alloc (.map #[] 0))) := ⟨HB2.out.alloc HB2.out.size _⟩
  have HSB := As.mk HB2.out.size
  go_wp2_with (fail)
  go_loopw [40] (fun v40 wr => ∃ i : Nat, v40 = .int .i64 i ∧ i ≤ n0 ∧ As (MapOf Tryz.prog 9 wr w2.heap.size i (emb (mapL (l.take i)))) ∧ As (Below w.heap.size w wr)) (fun v40 _ => n0 - (intOf v40).toNat)
  case atStart => exact ⟨0, rfl, by omega, HM0, HB3⟩
  case round =>
    obtain ⟨i, rfl, hi, HM, HB⟩ := hrel
    by_cases hlt : i < n0
    · have hil : i < l.length := by rw [HN0.out]; exact hlt
      obtain ⟨ad, rfl, h0, h1⟩ := at_T46 (Kd.C_below HC0.out HB.out) (i : Int) (by omega) (by omega)
      rw [Int.toNat_natCast] at h0 h1
      obtain ⟨x, hx⟩ : ∃ x, rd_T46 l (i : Int) = x := ⟨_, rfl⟩
      have HX := As.mk (rd_Ref_at hil hx)
      rw [hx] at h0 h1
      have hxs : x.f0.size ≤ maxLen := by have := (HSL.out x (List.mem_of_getElem? HX.out)).1; omega
      clear hx hil
      go_wp2_with (first | (at_mapUpdate; refine Mp.wpList_store _ rfl _ _ _ _ rfl 9 9 Tryz.underlying9 Tryz.underlying48 w2.heap.size i _ rfl (HM.out.alloc _) (by omega) x.f0 _ rfl rfl hxs ?_; intro w3 hM1 hT1) | fail)
      replace hM1 : MapOf Tryz.prog 9 w3 w2.heap.size (i + 1) (put (emb (mapL (l.take i))) x.f0 (.string x.f1)) := hM1
      rw [emb_put, ← mapL_step HX.out] at hM1
      have HM1 := As.mk hM1
      have HT1 := As.mk hT1
      clear hM1 hT1
      go_wp2_with (fail)
      exact ⟨⟨i + 1, by go_num, by omega, HM1, ⟨(HB.out.alloc HB.out.size _).trans (turned_below HT1.out HSB.out)⟩⟩, by simp [intOf]; omega⟩
    · have hin : i = n0 := by omega
      subst hin
      have HMM : As (MapOf Tryz.prog 9 wr w2.heap.size i (emb (mapL l))) := ⟨by have := HM.out; rw [List.take_of_length_le (by rw [HN0.out]; exact Nat.le_refl _)] at this; exact this⟩
      clear HM
      have HBi := HB
      have HMi : As (∃ f, MapOf Tryz.prog 9 wr w2.heap.size (i + 0) (emb f) ∧ runU (mapL l) 0 u = runU f 0 (u.drop 0)) := ⟨_, HMM.out, by rw [List.drop_zero]⟩
      clear HB HMM
      go_wp2_with (fail)
      go_loopw [52] (fun v52 wq => ∃ j : Nat, v52 = .int .i64 j ∧ j ≤ n1 ∧ As (∃ f, MapOf Tryz.prog 9 wq w2.heap.size (i + j) (emb f) ∧ runU (mapL l) 0 u = runU f j (u.drop j)) ∧ As (Below w.heap.size w wq)) (fun v52 _ => n1 - (intOf v52).toNat)
      case atStart => exact ⟨0, rfl, by omega, HMi, HBi⟩
      case round =>
        obtain ⟨j, rfl, hj, HM, HB⟩ := hrel
        by_cases hlt2 : j < n1
        · have hjl : j < u.length := by rw [HN1.out]; exact hlt2
          obtain ⟨ad, rfl, h0, h1, h2⟩ := at_T40 (Kd.C_below HC1.out HB.out) (j : Int) (by omega) (by omega)
          rw [Int.toNat_natCast] at h0 h1 h2
          obtain ⟨x, hx⟩ : ∃ x, rd_T40 u (j : Int) = x := ⟨_, rfl⟩
          have HX := As.mk (rd_Upd_at hjl hx)
          rw [hx] at h0 h1 h2
          have HXS := As.mk (HSU.out x (List.mem_of_getElem? HX.out))
          have hxs : x.f0.size ≤ maxLen := by have := HXS.out.1; omega
          clear hx hjl
          obtain ⟨f, hM, hrun⟩ := HM.out
          rw [runU_at HX.out] at hrun
          have hbl := hM.lt
          obtain ⟨W0, hW0⟩ : ∃ W0, wr.alloc (.cells #[.string x.f0, .string x.f1, .string x.f2] 40) = W0 := ⟨_, rfl⟩
          have hb0 : Below wr.heap.size wr W0 := by rw [← hW0]; exact (Below.refl _ _).alloc (Nat.le_refl _) _
          have HMW := As.mk (hM.below hb0)
          have hnew : W0.heap[wr.heap.size]? = some (.cells #[.string x.f0, .string x.f1, .string x.f2] 40 (0, 0)) := by rw [← hW0]; exact blk_new wr _
          have hd0 : W0.cell? ⟨wr.heap.size, 0, none⟩ = some (.string x.f0) := (blk_cell hnew 0).trans rfl
          have hd1 : W0.cell? ⟨wr.heap.size, 1, none⟩ = some (.string x.f1) := (blk_cell hnew 1).trans rfl
          have hd2 : W0.cell? ⟨wr.heap.size, 2, none⟩ = some (.string x.f2) := (blk_cell hnew 2).trans rfl
          have hlk := HMW.out.run_look (t := 48) (e := 9) Tryz.underlying9 Tryz.underlying48 (z := .string ⟨#[]⟩) rfl hxs (emb_at f x.f0)
          have HB0 : As (Below w.heap.size w W0) := ⟨HB.out.trans (hb0.mono HB.out.size)⟩
          have HNEW := As.mk hnew
          clear hM hb0 hnew HM
          rcases hq : ((atF f x.f0).toList == x.f1.toList) with _ | _
          · have hne : ¬ atF f x.f0 = x.f1 := fun e => by rw [e, beq_self_eq_true] at hq; cases hq
            rw [if_neg hne] at hrun
            have HA2 := As.mk (HA.out.trans (by rw [hrun]))
            clear hrun HA hne
            go_wp2_with (fail)
            go_ret3
            rw [HA2.out]
            exact ⟨_, rfl, Kd.V_below HV0.out HB0.out, HB0.out⟩
          · have hne : atF f x.f0 = x.f1 := (toL_inj _ _).1 (by rw [beq_iff_eq] at hq; exact hq)
            rw [if_pos hne] at hrun
            have HRUN := As.mk hrun
            have hnb : wr.heap.size ≠ w2.heap.size := Nat.ne_of_gt hbl
            clear hrun hne
            by_cases h2z : x.f2.size = 0
            · have hl2 : x.f2.toList = [] := (toL_nil _).2 h2z
              have HST : As (stepU f x = delF f x.f0) := ⟨if_pos h2z⟩
              go_wp2_with (first | (at_mapUpdate; refine Mp.wpList_store _ rfl _ _ _ _ rfl 9 9 Tryz.underlying9 Tryz.underlying48 w2.heap.size (i + j) _ rfl HMW.out (by omega) x.f0 _ rfl rfl hxs ?_; intro w3 hM1 hT1; have hnew3 := (turned_other hT1 hnb).trans HNEW.out; have he0 : w3.cell? ⟨wr.heap.size, 0, none⟩ = some (.string x.f0) := (blk_cell hnew3 0).trans rfl; have he2 : w3.cell? ⟨wr.heap.size, 2, none⟩ = some (.string x.f2) := (blk_cell hnew3 2).trans rfl) | (at_delete; refine Mp.wpList_drop _ rfl _ _ 48 9 rfl 9 Tryz.underlying9 Tryz.underlying48 w2.heap.size (i + j + 1) _ rfl hM1 x.f0 rfl hxs ?_; intro w4 hM2 hT2) | fail)
              replace hM2 : MapOf Tryz.prog 9 w4 w2.heap.size (i + j + 1) (del (put (emb f) x.f0 (.string x.f2)) x.f0) := hM2
              rw [emb_put, emb_del, del_upd, ← HST.out] at hM2
              have HM2 := As.mk hM2
              have HT1 := As.mk hT1
              have HT2 := As.mk hT2
              clear hM1 hM2 hT1 hT2 hnew3 he0 he2
              go_wp2_with (fail)
              exact ⟨⟨j + 1, by go_num, by omega, ⟨_, HM2.out, HRUN.out⟩, ⟨(HB0.out.trans (turned_below HT1.out HSB.out)).trans (turned_below HT2.out HSB.out)⟩⟩, by simp [intOf]; omega⟩
            · have hl2 : x.f2.toList ≠ [] := fun e => h2z ((toL_nil _).1 e)
              have hl3 : x.f2.toList.isEmpty = false := List.isEmpty_eq_false_iff.2 hl2
              have hl4 : (x.f2.toList == []) = false := by rw [beq_eq_false_iff_ne]; exact hl2
              have HST : As (stepU f x = updF f x.f0 x.f2) := ⟨if_neg h2z⟩
              go_wp2_with (first | (at_mapUpdate; refine Mp.wpList_store _ rfl _ _ _ _ rfl 9 9 Tryz.underlying9 Tryz.underlying48 w2.heap.size (i + j) _ rfl HMW.out (by omega) x.f0 _ rfl rfl hxs ?_; intro w3 hM1 hT1; have hnew3 := (turned_other hT1 hnb).trans HNEW.out; have he0 : w3.cell? ⟨wr.heap.size, 0, none⟩ = some (.string x.f0) := (blk_cell hnew3 0).trans rfl; have he2 : w3.cell? ⟨wr.heap.size, 2, none⟩ = some (.string x.f2) := (blk_cell hnew3 2).trans rfl) | fail)
              replace hM1 : MapOf Tryz.prog 9 w3 w2.heap.size (i + j + 1) (put (emb f) x.f0 (.string x.f2)) := hM1
              rw [emb_put, ← HST.out] at hM1
              have HM1 := As.mk hM1
              have HT1 := As.mk hT1
              clear hM1 hT1 hnew3 he0 he2
              go_wp2_with (fail)
              exact ⟨⟨j + 1, by go_num, by omega, ⟨_, HM1.out, HRUN.out⟩, ⟨HB0.out.trans (turned_below HT1.out HSB.out)⟩⟩, by simp [intOf]; omega⟩
        · have hjn : j = n1 := by omega
          subst hjn
          obtain ⟨f, hM, hrun⟩ := HM.out
          rw [List.drop_of_length_le (by rw [HN1.out]; exact Nat.le_refl _)] at hrun
          have HA3 : As (applyL l u = if 0 ≤ fst (inWay (refsF f)) u then (l, 91, fst (inWay (refsF f)) u) else if 64 < (refsF f).length then (l, 2, 0) else (refsF f, 0, 0)) := ⟨by rw [HA.out, hrun]; rfl⟩
          have HDOM := As.mk (runU_dom (P := fun s => s.size ≤ 1000000000) u _ 0 (mapL_dom l (fun x hx => (HSL.out x hx).1)) (fun x hx => (HSU.out x hx).1) f hrun)
          have HMF := As.mk hM
          have hHM := As.mk hM.lt
          have HSBr := As.mk HB.out.size
          clear hM hrun HA HM HBi HMi
          go_wp2_with (fail)
          obtain ⟨we, hwe⟩ : ∃ we, wr.alloc (.cells #[.slice none 0 0] 22) = we := ⟨_, rfl⟩
          have hbe : Below wr.heap.size wr we := by rw [← hwe]; exact (Below.refl _ _).alloc (Nat.le_refl _) _
          have hbxe : we.heap[wr.heap.size]? = some (.cells #[.slice none 0 0] 22 (0, 0)) := by rw [← hwe]; exact blk_new wr _
          have HMe := As.mk (HMF.out.below hbe)
          have HBe : As (Below w.heap.size w we) := ⟨HB.out.trans (hbe.mono HB.out.size)⟩
          have hsze : wr.heap.size < we.heap.size := by rw [← hwe, World.size_alloc]; omega
          rw [hwe]
          clear HB HMF hwe hbe
          refine (Mp.keysS (some w2.heap.size) we).mono ?_
          rintro e w4 ⟨rfl, rfl⟩
          go_wp2_with (fail)
          refine (Mp.sortedS w2.heap.size (i + j) (emb f) we HMe.out (by omega)).mono ?_
          rintro e w5 ⟨vk, ks, rfl, hks, hkl, hRk, hbk⟩
          have hb5 : Below we.heap.size we w5 := by
            have h1 : Below we.heap.size we (we.alloc (.cells #[.map (some w2.heap.size)] 48)) := (Below.refl _ _).alloc (Nat.le_refl _) _
            exact h1.trans hbk
          have hnames := namesF_eq hks
          have hout : refsF f = ks.map (fun s => ⟨s, atF f s⟩) := by rw [refsF, hnames]
          have hksz : ∀ s ∈ ks, s.size ≤ 1000000000 := fun s hs => HDOM.out s (by have := (hks.mem s).1 hs; unfold emb at this; simpa using this)
          obtain ⟨Ak, ck, rfl, hck, hCk⟩ := Kd.R_reads hRk
          obtain ⟨nk, hnk⟩ : ∃ nk, ks.length = nk := ⟨_, rfl⟩
          rw [hnk] at hck hCk hkl hRk ⊢
          have HKN := As.mk hnk
          have hFk : Kd.F Kd.string w5 (fun k => k ≠ wr.heap.size ∧ k < w5.heap.size) Ak nk ks := Kd.F_mono (Kd.R_F (Kd.R_bound hRk)) (fun k hk => ⟨by omega, hk.2.2.1⟩)
          have HFk := As.mk hFk
          have hbx5 := (hb5.block _ hsze).trans hbxe
          have HM5 := As.mk (HMe.out.below hb5)
          have HB5 : As (Below w.heap.size w w5) := ⟨HBe.out.trans (hb5.mono HBe.out.size)⟩
          have HBX5 := As.mk hbx5
          have HKS := As.mk hksz
          have HOUT := As.mk hout
          have hmaxk := Kd.C_max hCk
          have hs5 : wr.heap.size < w5.heap.size := Nat.lt_of_lt_of_le hsze hb5.size
          have hm5 : w2.heap.size < w5.heap.size := HM5.out.lt
          have hmne : w2.heap.size ≠ wr.heap.size := Nat.ne_of_lt hHM.out
          have hob : w.heap.size ≤ wr.heap.size := HSBr.out
          clear hks hnames hRk hbk hCk hFk hb5 hbx5 hbxe hout hksz HMe HBe hnk
          generalize wr.heap.size = ob at hs5 hmne hob HFk HBX5 ⊢
          go_wp2_with (fail)
          go_loopw [82] (fun v82 wq => ∃ (q : Nat) (vo : Value), v82 = .int .i64 q ∧ q ≤ nk ∧ As (wq.heap[ob]? = some (.cells #[vo] 22 (0, 0))) ∧ As (Kd.R k46 46 wq w5.heap.size (fun _ => True) vo ((ks.take q).map (fun s => (⟨s, atF f s⟩ : Ref)))) ∧ As (MapOf Tryz.prog 9 wq w2.heap.size (i + j) (emb f)) ∧ As (Kd.F Kd.string wq (fun k => k ≠ ob ∧ k < w5.heap.size) Ak nk ks) ∧ As (Below w.heap.size w wq) ∧ As (w5.heap.size ≤ wq.heap.size)) (fun v82 _ => nk - (intOf v82).toNat)
          case atStart => exact ⟨0, _, rfl, Nat.zero_le _, HBX5, ⟨Kd.R_nil _ _ _ _ _⟩, HM5, HFk, HB5, ⟨Nat.le_refl _⟩⟩
          case round =>
            obtain ⟨q, vo, rfl, hq, HBX, HRO, HMQ, HFQ, HBQ, HSQ⟩ := hrel
            by_cases hlt3 : q < nk
            · have hql : q < ks.length := by rw [HKN.out]; exact hlt3
              obtain ⟨ad, rfl, h0⟩ := at_str (Kd.F_now HFQ.out) (q : Int) (by omega) (by omega)
              rw [Int.toNat_natCast] at h0
              obtain ⟨s, hs⟩ : ∃ s, rd_str ks (q : Int) = s := ⟨_, rfl⟩
              have HS := As.mk (rd_str_at hql hs)
              rw [hs] at h0
              clear hs hql
              have hss : s.size ≤ maxLen := by have := HKS.out s (List.mem_of_getElem? HS.out); omega
              have hlk := HMQ.out.run_look (t := 48) (e := 9) Tryz.underlying9 Tryz.underlying48 (z := .string ⟨#[]⟩) rfl hss (emb_at f s)
              have hbc : wr.cell? ⟨ob, 0, none⟩ = some vo := (blk_cell HBX.out 0).trans rfl
              have htk : (ks.take (q + 1)).map (fun s => (⟨s, atF f s⟩ : Ref)) = (ks.take q).map (fun s => (⟨s, atF f s⟩ : Ref)) ++ [(⟨s, atF f s⟩ : Ref)] := by
                have := List.take_add_one (l := ks) (i := q)
                rw [HS.out] at this
                rw [this, List.map_append]; rfl
              have HTK := As.mk htk
              have hln : (((ks.take q).map (fun s => (⟨s, atF f s⟩ : Ref))).length + 1) * 32 ≤ 140737488355328 := by
                rw [List.length_map, List.length_take]; omega
              have hobq : ob < wr.heap.size := Nat.lt_of_lt_of_le hs5 HSQ.out
              clear htk
              go_wp2_with (first | (at_builtin; refine Kd.R_append k46 (w0 := wr) w5.heap.size rfl (.tmp 86) (.tmp 92) 22 46 (.agg #[(.string ⟨#[]⟩), (.string ⟨#[]⟩)]) 32 rfl Tryz.underlying22 info46 rfl (by decide) (by decide) vo _ (⟨s, atF f s⟩ : Ref) [.string s, .string (atF f s)] (fun _ => True) (fun _ => False) rfl rfl (k46_mkM _ _ _ (⟨s, atF f s⟩ : Ref)) (fun _ hk => hk.elim) (fun _ _ => trivial) HRO.out (Below.refl _ _) HSQ.out hln ?_; intro v6 w6 ho6 hb6 hg6 hat6; obtain ⟨A6, c6, rfl⟩ := Kd.R_slice ho6; have hbx6 := (hb6.block ob hs5).trans HBX.out; have hbc6 : w6.cell? ⟨ob, 0, none⟩ = some vo := (blk_cell hbx6 0).trans rfl; have hbf6 : w6.frozen? ⟨ob, 0, none⟩ = false := blk_frozen hbx6 0) | fail)
              have HO6 : As (Kd.R k46 46 (w6.setCell ⟨ob, 0, none⟩ (.slice A6 (min q ks.length + 1) c6)) w5.heap.size (fun _ => True) (.slice A6 (min q ks.length + 1) c6) ((ks.take (q + 1)).map (fun s => (⟨s, atF f s⟩ : Ref)))) := ⟨by
                rw [HTK.out, show min q ks.length + 1 = ((ks.take q).map (fun s => (⟨s, atF f s⟩ : Ref)) ++ [(⟨s, atF f s⟩ : Ref)]).length by simp]
                exact Kd.R_mono (ok' := fun _ => True) (Kd.R_far (p := ⟨ob, 0, none⟩) (Kd.R_bound ho6) (fun k hk => by have := hk.2.1; exact Nat.ne_of_gt (Nat.lt_of_lt_of_le hs5 this)) _) (fun _ _ => trivial)⟩
              have HBX6 := As.mk ((blk_set hbx6 0 (.slice A6 (min q ks.length + 1) c6)).trans rfl)
              have HM6 := As.mk ((HMQ.out.move (hb6.block _ hm5)).far (p := ⟨ob, 0, none⟩) hmne (.slice A6 (min q ks.length + 1) c6))
              have HF6 := As.mk (Kd.F_far (p := ⟨ob, 0, none⟩) (Kd.F_step HFQ.out (fun k hk _ => hb6.block k hk.2)) (fun k hk => hk.1) (.slice A6 (min q ks.length + 1) c6))
              have HB6 := As.mk (Below.setCell (HBQ.out.trans (hb6.mono (Nat.le_trans hob (Nat.le_of_lt hs5)))) (p := ⟨ob, 0, none⟩) hob (.slice A6 (min q ks.length + 1) c6))
              have HS6 : As (w5.heap.size ≤ (w6.setCell ⟨ob, 0, none⟩ (.slice A6 (min q ks.length + 1) c6)).heap.size) := ⟨Nat.le_trans (Nat.le_trans HSQ.out hb6.size) (Below.setCell (Below.refl 0 w6) (p := ⟨ob, 0, none⟩) (Nat.zero_le _) _).size⟩
              clear ho6 hb6 hg6 hat6 hbx6 hbc6 hbf6 hbc hlk h0 HTK
              exact ⟨⟨q + 1, _, by go_num, by omega, HBX6, HO6, HM6, HF6, HB6, HS6⟩, by simp [intOf]; omega⟩
            · have hqn : q = nk := by omega
              subst hqn
              have hRo := HRO.out
              rw [List.take_of_length_le (by rw [HKN.out]; exact Nat.le_refl _), ← HOUT.out] at hRo
              have HVO := As.mk (Kd.R_bound hRo)
              obtain ⟨Ao, co, rfl, hco, hCo⟩ := Kd.R_reads hRo
              obtain ⟨no, hno⟩ : ∃ no, (refsF f).length = no := ⟨_, rfl⟩
              rw [hno] at hco hCo HVO HBX
              have HCo := As.mk hCo
              have HNO := As.mk hno
              have HOS : As (∀ y ∈ refsF f, y.f0.size ≤ 1000000000) := ⟨fun y hy => by
                rw [HOUT.out] at hy
                obtain ⟨s, hs, rfl⟩ := List.mem_map.1 hy
                exact HKS.out s hs⟩
              have hbc : wr.cell? ⟨ob, 0, none⟩ = some (.slice Ao no co) := (blk_cell HBX.out 0).trans rfl
              clear hRo hCo hno HRO HMQ HFQ HM5 HFk HBX5
              have HFI := As.mk (firstUpd1 A1 c1 j u 25 (.pointer (some ⟨ob, 0, none⟩)) (inWay (refsF f)) wr (Kd.C_below HC1.out HBQ.out) HN1.out hc1 (enters_of Tryz.func25 (by kernel_rfl) rfl) (fun W x hW hx => apply1 x ob (refsF f) Ao no co (HSU.out x hx).1 HOS.out W (pw_cell_below hW hbc) (Kd.C_below HCo.out hW) HNO.out hco))
              go_wp2_with (fail)
              refine HFI.out.mono ?_
              rintro e w7 ⟨rfl, hb7⟩
              have HB7 := As.mk (HBQ.out.trans (hb7.mono HBQ.out.size))
              have hbc7 := pw_cell_below hb7 hbc
              have HVO7 := As.mk (Kd.R_below HVO.out hb7)
              clear hb7 HFI HVO hbc
              by_cases hf : 0 ≤ fst (inWay (refsF f)) u
              · have HA4 := As.mk (HA3.out.trans (if_pos hf))
                go_wp2_with (fail)
                go_ret3
                rw [HA4.out]
                exact ⟨_, rfl, Kd.V_below HV0.out HB7.out, HB7.out⟩
              · have HA4 := HA3.out.trans (if_neg hf)
                rw [HNO.out] at HA4
                by_cases ho : 64 < no
                · rw [if_pos ho] at HA4
                  have HA5 := As.mk HA4
                  clear HA4
                  go_wp2_with (fail)
                  go_ret3
                  rw [HA5.out]
                  exact ⟨_, rfl, Kd.V_below HV0.out HB7.out, HB7.out⟩
                · rw [if_neg ho] at HA4
                  have HA5 := As.mk HA4
                  clear HA4
                  go_wp2_with (fail)
                  go_ret3
                  rw [HA5.out]
                  refine ⟨_, rfl, ?_, HB7.out⟩
                  have hF := Kd.R_F HVO7.out
                  rw [← HNO.out] at hF hco ⊢
                  exact Kd.V_mk hco (Kd.F_mono hF (fun k hk => .inr (Nat.le_trans hob (Nat.le_of_lt (Nat.lt_of_lt_of_le hs5 hk.2.1)))))
end Go.Proofs.YtacgchklilfcaaaGreatDoor.Rf
namespace Go.Proofs.YtacgchklilfcaaaGreatDoor.Db
set_option linter.unusedVariables false
set_option linter.unusedSimpArgs false
open Go.RowKit Go.Proofs.YtacgchklilfcaaaGreatDoorW.PrintWords Go.Proofs.YtacgchklilfcaaaGreatDoorW.PrintLast
theorem size_b : (Tryz.prog.info? 69).map (·.size) = some 2 := by kernel_rfl
theorem lies_b : liesAt Tryz.prog Tryz.prog.depth 69 (2 / Tryz.prog.cellsOf 69) 0 69 1 = true := by kernel_rfl
theorem info_u8 : (Tryz.prog.info? 5).map (fun i => (i.zero, i.size, i.bytes)) = some (some (Value.int .u8 0), 1, 1) := by kernel_rfl
set_option maxRecDepth 100000 in
theorem cc_used (b : Nat) (w : World) (h0 : w.cell? ⟨b, 0, none⟩ = some (.pointer (some ⟨b, 0, none⟩))) :
    Calls Tryz.prog 59 #[.pointer (some ⟨b, 0, none⟩)] w fun e w' => e = .returned (.tuple #[]) ∧ w' = w := by
  obtain ⟨j, hj, _⟩ := Option.map_eq_some_iff.1 size_b
  go_enter Tryz.func59, Tryz.ntmps59
  go_wp2
  rw [Lib.run_neq_ptr_same _ _ Tryz.underlying67 hj]
  go_wp2
  go_end0
  exact ⟨rfl, rfl⟩
set_option maxRecDepth 100000 in
theorem cc_fresh (b : Nat) (w : World) (h0 : w.cell? ⟨b, 0, none⟩ = some (.pointer none)) (hsh : w.shape? b = some (69, 2)) (hfz : w.frozen? ⟨b, 0, none⟩ = false) :
    Calls Tryz.prog 59 #[.pointer (some ⟨b, 0, none⟩)] w fun e w' => e = .returned (.tuple #[]) ∧ w' = w.setCell ⟨b, 0, none⟩ (.pointer (some ⟨b, 0, none⟩)) := by
  obtain ⟨j, hj, hjs⟩ := Option.map_eq_some_iff.1 size_b
  go_enter Tryz.func59, Tryz.ntmps59
  go_wp2
  rw [Lib.run_to_unsafe _ ⟨b, 0, none⟩ Tryz.underlying67 Tryz.underlying97 hj (by rw [hjs]; decide) hsh (Nat.zero_lt_succ 1)]
  simp only [Result.andThen]
  rw [Oper.upon_value]
  go_wp2
  rw [run_callFunc_extern Tryz.func72 (by kernel_rfl) (by kernel_rfl) (by kernel_rfl) (e := Extern.AbiNoEscape.same) (by kernel_rfl)]
  rw [Lib.run_noEscape]
  simp only [Result.andThen]
  rw [Oper.upon_value]
  go_wp2
  rw [Lib.run_from_unsafe _ ⟨b, 0, none⟩ Tryz.underlying97 Tryz.underlying67 hj hsh lies_b]
  simp only [Result.andThen]
  rw [Oper.upon_value]
  go_wp2
  go_end0
  exact ⟨rfl, rfl⟩
theorem cc_k (B b : Nat) (bs : List Value) (w : World) (h : Lib.IsBuilderF 69 5 B b bs w) :
    Calls Tryz.prog 59 #[.pointer (some ⟨b, 0, none⟩)] w fun e w' => e = .returned (.tuple #[]) ∧ (Lib.BuilderAtF 69 5 B b (.pointer (some ⟨b, 0, none⟩)) bs w' ∧ Below B w w' ∧ Lib.OthersKept 5 (some b) w w') := by
  rcases h with h | h
  · refine (cc_fresh b w h.cell0 h.shape h.frozen0).mono ?_
    rintro e w' ⟨rfl, rfl⟩
    exact ⟨rfl, h.used _, (Below.refl B w).setCell (p := ⟨b, 0, none⟩) h.1 _, (Lib.OthersKept.refl _ _ w).setCell ⟨b, 0, none⟩ rfl _⟩
  · refine (cc_used b w h.cell0).mono ?_
    rintro e w' ⟨rfl, rfl⟩
    exact ⟨rfl, h, Below.refl B _, Lib.OthersKept.refl _ _ _⟩
set_option maxHeartbeats 2000000 in
set_option maxRecDepth 100000 in
theorem writeString_k (B b : Nat) (bs : List Value) (s : ByteArray) (w : World) (h : Lib.IsBuilderF 69 5 B b bs w) (hlen : bs.length + s.size ≤ 140737488355328) (hBw : B ≤ w.heap.size) :
    Calls Tryz.prog 46 #[.pointer (some ⟨b, 0, none⟩), .string s] w fun e w' => e = .returned (.tuple #[.int .i64 s.size, .nilIface]) ∧ (Lib.BuilderAtF 69 5 B b (.pointer (some ⟨b, 0, none⟩)) (bs ++ Lib.strCells s) w' ∧ Below B w w' ∧ Lib.OthersKept 5 (some b) w w') := by
  obtain ⟨i0, hi, hz0, hz1, hz2⟩ := info_parts info_u8
  go_enter Tryz.func46, Tryz.ntmps46
  go_wp2_with (go_at_call 59; refine (cc_k B b bs _ h).mono ?_)
  rintro e w1 ⟨rfl, h1, hb1, hk1⟩
  obtain ⟨hB, v, hbk, hown, hne⟩ := h1
  have c0 : w1.cell? ⟨b, 0, none⟩ = some (.pointer (some ⟨b, 0, none⟩)) := by rw [Lib.cell_of_heap hbk]; rfl
  have c1 : w1.cell? ⟨b, 1, none⟩ = some v := by rw [Lib.cell_of_heap hbk]; rfl
  go_wp2_with (at_builtin; refine Lib.wpList_append_own_stringF _ rfl _ _ 38 9 rfl B 5 i0 Tryz.underlying38 Tryz.underlying9 hi hz0 hz1 hz2 _ _ _ rfl hown s rfl ?c3 ?c4 ?c5 ?_)
  case c3 => unfold maxLen; omega
  case c4 => omega
  case c5 => have := hb1.size; omega
  intro v' w2 hown' hgrow _
  have hlt : b < w1.heap.size := (Array.getElem?_eq_some_iff.1 hbk).1
  have hb2 : w2.heap[b]? = some (.cells #[.pointer (some ⟨b, 0, none⟩), v] 69 (0, 0)) := by
    rw [hgrow.block b hlt (fun e => hne e.symm)]
    exact hbk
  have d0 : w2.cell? ⟨b, 0, none⟩ = some (.pointer (some ⟨b, 0, none⟩)) := by rw [Lib.cell_of_heap hb2]; rfl
  have d1 : w2.cell? ⟨b, 1, none⟩ = some v := by rw [Lib.cell_of_heap hb2]; rfl
  have f1 : w2.frozen? ⟨b, 1, none⟩ = false := Lib.frozen_of_heap hb2 1
  obtain ⟨ao, n', cap, rfl⟩ : ∃ ao n' cap, v' = .slice ao n' cap := by
    rcases hown'.2 with ⟨hv, _⟩ | ⟨g, cap, cur, fz, hv, _⟩
    · exact ⟨_, _, _, hv⟩
    · exact ⟨_, _, _, hv⟩
  go_wp2
  go_ret2
  refine ⟨rfl, ?_, ?_, (hk1.grown hgrow (Lib.ownsRowF_kind hown)).setCell ⟨b, 1, none⟩ rfl _⟩
  · exact Lib.BuilderAtF.put (T := 69) (e := 5) hB hb2 (bs' := bs ++ Lib.strCells s) (by simpa [Lib.strCells_length] using hown') (by decide)
  · exact (hb1.grown hgrow (by have := hb1.size; omega) (fun k hk => (hown.lt k hk).1)).setCell (p := ⟨b, 1, none⟩) hB _
end Go.Proofs.YtacgchklilfcaaaGreatDoor.Db
namespace Go.Proofs.YtacgchklilfcaaaGreatDoor.Rf
set_option linter.unusedVariables false
set_option linter.unusedSimpArgs false
open Go Go.RowKit Go.Proofs.YtacgchklilfcaaaGreatDoorW.PrintWords Go.Proofs.YtacgchklilfcaaaGreatDoorW.PrintLast Go.Proofs.YtacgchklilfcaaaGreatDoorW.PrintMore PRfBase
def lineS (x : Ref) : ByteArray := x.f1 ++ (⟨#[32]⟩ : ByteArray) ++ x.f0 ++ (⟨#[10]⟩ : ByteArray)
def linesL (l : List Ref) : List UInt8 := l.flatMap (fun x => L (lineS x))
def textL (l : List Ref) : ByteArray := ⟨(linesL l).toArray⟩
def putL (l : List Ref) : ByteArray × Bool := if rightB l then (textL l, true) else (⟨#[]⟩, false)
theorem lineS_size (x : Ref) : (lineS x).size = x.f1.size + 1 + x.f0.size + 1 := by
  unfold lineS
  rw [ByteArray.size_append, ByteArray.size_append, ByteArray.size_append]; rfl
theorem lines_step {l : List Ref} {i : Nat} {x : Ref} (hx : l[i]? = some x) : linesL (l.take (i + 1)) = linesL (l.take i) ++ L (lineS x) := by
  have := List.take_add_one (l := l) (i := i)
  rw [hx] at this
  rw [this, linesL, List.flatMap_append]
  simp [linesL]
theorem cells_app (a : List UInt8) (s : ByteArray) : Lib.byteCells a ++ Lib.strCells s = Lib.byteCells (a ++ L s) := by
  simp [Lib.byteCells, Lib.strCells, L, List.map_append]
theorem lines_len {l : List Ref} (h : ∀ x ∈ l, x.f0.size ≤ 1000000000 ∧ x.f1.size ≤ 1000000000) : (linesL l).length ≤ l.length * 2000000002 := by
  induction l with
  | nil => simp [linesL]
  | cons x r ih =>
    have h1 := h x List.mem_cons_self
    have ih := ih (fun y hy => h y (List.mem_cons_of_mem _ hy))
    have e : linesL (x :: r) = L (lineS x) ++ linesL r := by simp [linesL]
    rw [e, List.length_append, L_len, lineS_size, List.length_cons]
    omega
set_option maxHeartbeats 8000000 in
set_option maxRecDepth 100000 in
theorem put_walk (A : Option Addr) (c n : Nat) (l : List Ref) (w : World) (hC : Kd.C k46 w A n l) (hn : l.length = n) (hc : n ≤ c) (hsh : Zsh l) :
    Calls Tryz.prog 20 #[.slice A n c] w fun e w' => e = .returned (.tuple #[.string (putL l).1, .bool (putL l).2]) ∧ Below w.heap.size w w' := by
  have HC := As.mk hC
  have HN := As.mk hn
  have HSH := As.mk hsh
  have HRT := As.mk (right_walk A c n l w hC hn hc hsh)
  clear hC hn hsh
  go_enter Tryz.func20, Tryz.ntmps20
  go_wp2_with (fail)
  refine HRT.out.mono ?_
  rintro e w1 ⟨rfl, hb⟩
  have HB1 := As.mk hb
  clear hb
  rcases hrt : rightB l with _ | _
  · have HP : As (putL l = (⟨#[]⟩, false)) := ⟨by rw [putL, hrt]; rfl⟩
    go_wp2_with (fail)
    go_ret2
    rw [HP.out]
    exact ⟨rfl, HB1.out⟩
  have HP : As (putL l = (textL l, true)) := ⟨by rw [putL, hrt]; rfl⟩
  have h64 : n ≤ 64 := by
    have := hrt
    rw [rightB, Bool.and_eq_true, decide_eq_true_iff, HN.out] at this
    exact this.2
  obtain ⟨w2, hw2⟩ : ∃ w2, w1.alloc (.cells #[.pointer none, .slice none 0 0] 69) = w2 := ⟨_, rfl⟩
  have HBU : As (Lib.IsBuilderF 69 5 w1.heap.size w1.heap.size (Lib.byteCells []) w2) := ⟨by
    have := Lib.IsBuilderF.of (Lib.fresh_isBuilder 69 5 w1)
    rw [← hw2]; exact this⟩
  have HB2 : As (Below w.heap.size w w2) := ⟨by rw [← hw2]; exact HB1.out.alloc HB1.out.size _⟩
  have HS1 := As.mk HB1.out.size
  have HS2 : As (w1.heap.size ≤ w2.heap.size) := ⟨by rw [← hw2, World.size_alloc]; omega⟩
  go_wp2_with (fail)
  go_loopw [12] (fun v12 wr => ∃ i : Nat, v12 = .int .i64 i ∧ i ≤ n ∧ As (Lib.IsBuilderF 69 5 w1.heap.size w1.heap.size (Lib.byteCells (linesL (l.take i))) wr) ∧ As (Below w.heap.size w wr) ∧ As (w1.heap.size ≤ wr.heap.size)) (fun v12 _ => n - (intOf v12).toNat)
  case atStart => exact ⟨0, rfl, by omega, HBU, HB2, HS2⟩
  case round =>
    obtain ⟨i, rfl, hi, HU, HB, HS⟩ := hrel
    by_cases hlt : i < n
    · have hil : i < l.length := by rw [HN.out]; exact hlt
      obtain ⟨ad, rfl, h0, h1⟩ := at_T46 (Kd.C_below HC.out HB.out) (i : Int) (by omega) (by omega)
      rw [Int.toNat_natCast] at h0 h1
      obtain ⟨x, hx⟩ : ∃ x, rd_T46 l (i : Int) = x := ⟨_, rfl⟩
      have HX := As.mk (rd_Ref_at hil hx)
      rw [hx] at h0 h1
      have hz := HSH.out x (List.mem_of_getElem? HX.out)
      have hz0 := hz.1
      have hz1 := hz.2
      obtain ⟨wb, hwb⟩ : ∃ wb, wr.alloc (.cells #[.string x.f0, .string x.f1] 46) = wb := ⟨_, rfl⟩
      have hb0 : Below wr.heap.size wr wb := by rw [← hwb]; exact (Below.refl _ _).alloc (Nat.le_refl _) _
      have hnew : wb.heap[wr.heap.size]? = some (.cells #[.string x.f0, .string x.f1] 46 (0, 0)) := by rw [← hwb]; exact blk_new wr _
      have hd0 : wb.cell? ⟨wr.heap.size, 0, none⟩ = some (.string x.f0) := (blk_cell hnew 0).trans rfl
      have hd1 : wb.cell? ⟨wr.heap.size, 1, none⟩ = some (.string x.f1) := (blk_cell hnew 1).trans rfl
      have HUb : As (Lib.IsBuilderF 69 5 w1.heap.size w1.heap.size (Lib.byteCells (linesL (l.take i))) wb) := ⟨by rw [← hwb]; exact HU.out.alloc _⟩
      have HBb : As (Below w.heap.size w wb) := ⟨HB.out.trans (hb0.mono HB.out.size)⟩
      have HSb : As (w1.heap.size ≤ wb.heap.size) := ⟨Nat.le_trans HS.out hb0.size⟩
      have hll : (Lib.byteCells (linesL (l.take i))).length + (lineS x).size ≤ 140737488355328 := by
        rw [Lib.byteCells_length, lineS_size]
        have := lines_len (l := l.take i) (fun y hy => HSH.out y (List.mem_of_mem_take hy))
        rw [List.length_take] at this
        omega
      have HW := As.mk (Db.writeString_k w1.heap.size w1.heap.size (Lib.byteCells (linesL (l.take i))) (lineS x) wb HUb.out hll HSb.out)
      have HLS := As.mk (lines_step HX.out)
      clear hx hil hz hb0 hnew hll
      go_wp2_with (fail)
      refine HW.out.mono ?_
      rintro e w5 ⟨rfl, hu5, hb5, _⟩
      rw [cells_app, ← HLS.out] at hu5
      have HU5 : As (Lib.IsBuilderF 69 5 w1.heap.size w1.heap.size (Lib.byteCells (linesL (l.take (i + 1)))) w5) := ⟨.inr hu5⟩
      have HB5 := As.mk (HBb.out.trans (hb5.mono HS1.out))
      have HS5 := As.mk (Nat.le_trans HSb.out hb5.size)
      clear hu5 hb5
      go_wp2_with (fail)
      exact ⟨⟨i + 1, by go_num, by omega, HU5, HB5, HS5⟩, by simp [intOf]; omega⟩
    · have hin : i = n := by omega
      subst hin
      have hU := HU.out
      rw [List.take_of_length_le (by rw [HN.out]; exact Nat.le_refl _)] at hU
      have HU2 := As.mk hU
      clear hU HU
      go_wp2_with (fail)
      have hfin : Calls Tryz.prog 47 #[.pointer (some ⟨w1.heap.size, 0, none⟩)] wr fun e w' => e = .returned (.string (textL l)) ∧ Below w1.heap.size wr w' := by
        by_cases he : linesL l = []
        · have := HU2.out
          rw [he] at this
          refine (Tryz.Builder_String_empty_f w1.heap.size w1.heap.size wr this HS.out).mono ?_
          rintro e w' ⟨rfl, _, hb⟩
          exact ⟨by rw [textL, he], hb⟩
        · refine (Tryz.Builder_String_f w1.heap.size w1.heap.size (linesL l) wr HU2.out he).mono ?_
          rintro e w' ⟨rfl, _, hb⟩
          exact ⟨rfl, hb⟩
      refine hfin.mono ?_
      rintro e w5 ⟨rfl, hb5⟩
      have HB5 := As.mk (HB.out.trans (hb5.mono HS1.out))
      clear hb5
      go_wp2_with (fail)
      go_ret2
      rw [HP.out]
      exact ⟨rfl, HB5.out⟩
end Go.Proofs.YtacgchklilfcaaaGreatDoor.Rf
