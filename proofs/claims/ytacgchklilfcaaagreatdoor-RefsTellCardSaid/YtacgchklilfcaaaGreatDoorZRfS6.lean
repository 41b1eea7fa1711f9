/- Joined texts: RfHeadP, RfGetP, RfCom. No condition but what stands in each. -/
import Derived.Test.YtacgchklilfcaaaGreatDoorZRfGiven
import Derived.KernelRfl
import Derived.Test.YtacgchklilfcaaaGreatDoorZPRfGetx0
import Derived.Test.YtacgchklilfcaaaGreatDoorZPRfGetx1
namespace Go.Proofs.YtacgchklilfcaaaGreatDoor.Rf
set_option linter.unusedVariables false
set_option linter.unusedSimpArgs false
set_option maxRecDepth 100000
open Go Go.RowKit Go.Proofs.YtacgchklilfcaaaGreatDoorW.PrintWords Go.Proofs.YtacgchklilfcaaaGreatDoorW.PrintLast Go.Proofs.YtacgchklilfcaaaGreatDoorW.PrintMore PRfBase
def e0 : ByteArray := ⟨#[]⟩
def ha : ByteArray := ⟨#[104, 101, 97, 100, 115, 47, 97]⟩
def hb : ByteArray := ⟨#[104, 101, 97, 100, 115, 47, 98]⟩
def hab : ByteArray := ⟨#[104, 101, 97, 100, 115, 47, 97, 47, 98]⟩
def tv : ByteArray := ⟨#[116, 97, 103, 115, 47, 118, 49]⟩
theorem name_ha : nameB ha = true := by kernel_rfl
theorem name_hb : nameB hb = true := by kernel_rfl
theorem name_hab : nameB hab = true := by kernel_rfl
theorem name_tv : nameB tv = true := by kernel_rfl
theorem name_tags : nameB tags = false := by kernel_rfl
theorem name_e0 : nameB e0 = false := by kernel_rfl
theorem ab1 : aboveB ha ha = false := by kernel_rfl
theorem ab2 : aboveB ha hab = true := by kernel_rfl
theorem ab3 : aboveB hab hab = false := by kernel_rfl
theorem ab4 : aboveB hb ha = false := by kernel_rfl
theorem ab5 : aboveB hb hb = false := by kernel_rfl
theorem ab6 : aboveB hb hab = false := by kernel_rfl
theorem ab7 : aboveB ha hb = false := by kernel_rfl
theorem ab8 : aboveB hab hb = false := by kernel_rfl
theorem may_e0 : mayB e0 = true := rfl
theorem hb_ne : ¬ hb = ha := by decide
theorem hab_ne : ¬ hab = ha := by decide
theorem hab_nb : ¬ hab = hb := by decide
theorem lt1 : L ha < L hab := by decide
theorem lt2 : L hab < L hb := by decide
theorem nm_size {a : ByteArray} (h : nmB a = true) : a.size = 64 := by
  unfold nmB at h
  rw [Bool.and_eq_true, decide_eq_true_iff] at h
  exact h.2
theorem may_nm {a : ByteArray} (h : nmB a = true) : mayB a = true := by rw [mayB, h, Bool.or_true]
theorem right_one {x : Ref} (h1 : nameB x.f0 = true) (h2 : nmB x.f1 = true) (h3 : aboveB x.f0 x.f0 = false) : rightB [x] = true := by
  rw [rightB_true (fun j y hy => ?_)]
  · rfl
  · match j, hy with
    | 0, hy =>
      cases hy
      unfold okAt
      rw [h1, h2]
      simp [h3]
theorem right_nil : rightB [] = true := rfl
theorem right_bad : rightB [(⟨e0, e0⟩ : Ref)] = false := rightB_false (i := 0) rfl (by unfold okAt; rw [name_e0]; rfl)
theorem good_new {s a : ByteArray} (h1 : nameB s = true) (h2 : nmB a = true) : badB 0 ⟨s, e0, a⟩ = false := by
  unfold badB
  rw [h1, may_e0, may_nm h2, nm_size h2]; rfl
theorem good_gone {s a : ByteArray} (h1 : nameB s = true) (h2 : nmB a = true) : badB 0 ⟨s, a, e0⟩ = false := by
  unfold badB
  rw [h1, may_e0, may_nm h2, nm_size h2]; rfl
theorem wrong_one {x : Upd} (h : badB 0 x = false) : wrongI [x] = -1 := by
  refine fstI_none (fun j y hy => ?_)
  match j, hy with
  | 0, hy => cases hy; exact h
theorem wrong_two {x y : Upd} (h : badB 0 x = false) (h2 : badB 0 y = false) (hn : ¬ x.f0 = y.f0) : wrongI [x, y] = -1 := by
  refine fstI_none (fun j z hz => ?_)
  match j, hz with
  | 0, hz => cases hz; exact h
  | 1, hz =>
    cases hz
    have : cnt (List.take 1 [x, y]) y.f0 = 0 := by simp [cnt, hn]
    rw [this]; exact h2
theorem apply_run {l : List Ref} {u : List Upd} {f : ByteArray → Option ByteArray} {ks : List ByteArray} (hr : rightB l = true) (h1 : 1 ≤ u.length) (h16 : u.length ≤ 16) (hw : wrongI u = -1) (hrun : runU (mapL l) 0 u = .inr f) (hks : Mp.KeysOf (emb f) ks) :
    applyL l u = if 0 ≤ fst (inWay (ks.map (fun s => ⟨s, atF f s⟩))) u then (l, 91, fst (inWay (ks.map (fun s => ⟨s, atF f s⟩))) u) else if 64 < ks.length then (l, 2, 0) else (ks.map (fun s => ⟨s, atF f s⟩), 0, 0) := by
  unfold applyL
  rw [if_neg (by rintro (k | k | k) <;> first | (rw [hr] at k; cases k) | omega), if_neg (by omega), hrun]
  have : refsF f = ks.map (fun s => ⟨s, atF f s⟩) := by rw [refsF, ← namesF_eq hks]
  simp only [this, List.length_map]
theorem emb_some (f : ByteArray → Option ByteArray) (s : ByteArray) : (emb f s).isSome = (f s).isSome := by
  unfold emb
  cases f s <;> rfl
theorem stepU_new (f : ByteArray → Option ByteArray) (s o : ByteArray) {a : ByteArray} (h : a.size = 64) : stepU f ⟨s, o, a⟩ = updF f s a := if_neg (by show ¬ a.size = 0; omega)
theorem stepU_gone (f : ByteArray → Option ByteArray) (s o : ByteArray) : stepU f ⟨s, o, e0⟩ = delF f s := if_pos rfl
section
variable {a : ByteArray} (h : nmB a = true)
include h
theorem P1 : applyL [] [⟨ha, e0, a⟩] = ([⟨ha, a⟩], 0, 0) := by
  have hz := nm_size h
  have hrun : runU (mapL []) 0 [(⟨ha, e0, a⟩ : Upd)] = .inr (updF (fun _ => none) ha a) := by
    show (if atF (fun _ => none) ha = e0 then runU (stepU (fun _ => none) ⟨ha, e0, a⟩) 1 [] else _) = _
    rw [if_pos (show atF (fun _ => none) ha = e0 from rfl), stepU, if_neg (by show ¬ a.size = 0; omega)]; rfl
  have hks : Mp.KeysOf (emb (updF (fun _ => none) ha a)) [ha] := ⟨List.pairwise_singleton _ _, fun s => by
    rw [emb_some, List.mem_singleton, updF]
    by_cases e : s = ha
    · simp [e]
    · simp [e]⟩
  rw [apply_run right_nil (by simp) (by simp) (wrong_one (good_new name_ha h)) hrun hks]
  have e1 : ([ha].map (fun s => (⟨s, atF (updF (fun _ => none) ha a) s⟩ : Ref))) = [⟨ha, a⟩] := by simp [atF, updF]
  rw [e1]
  have hf : fst (inWay [⟨ha, a⟩]) [(⟨ha, e0, a⟩ : Upd)] = -1 := fst_none (fun j y hy => by
    match j, hy with
    | 0, hy => cases hy; simp [inWay, bothB, ab1])
  rw [hf]; rfl
theorem P2 : applyL [⟨ha, a⟩] [⟨hb, e0, a⟩, ⟨hab, e0, a⟩] = ([⟨ha, a⟩], 91, 1) := by
  have hz := nm_size h
  have hrun : runU (mapL [⟨ha, a⟩]) 0 [(⟨hb, e0, a⟩ : Upd), ⟨hab, e0, a⟩] = .inr (updF (updF (updF (fun _ => none) ha a) hb a) hab a) := by
    have m1 : mapL [(⟨ha, a⟩ : Ref)] = updF (fun _ => none) ha a := rfl
    rw [m1, runU, if_pos (by simp [atF, updF, hb_ne, e0]), stepU_new _ _ _ hz, runU, if_pos (by simp [atF, updF, hab_ne, hab_nb, e0]), stepU_new _ _ _ hz]; rfl
  have hks : Mp.KeysOf (emb (updF (updF (updF (fun _ => none) ha a) hb a) hab a)) [ha, hab, hb] := ⟨by
    have l1 := lt1
    have l2 := lt2
    have l3 := List.lt_trans l1 l2
    simp only [List.pairwise_cons, List.mem_cons, List.not_mem_nil, or_false]
    exact ⟨fun x hx => by rcases hx with rfl | rfl <;> assumption, fun x hx => by rcases hx with rfl; assumption, fun x hx => hx.elim, List.Pairwise.nil⟩, fun s => by
    rw [emb_some]
    simp only [List.mem_cons, List.not_mem_nil, or_false, updF]
    by_cases e : s = hab
    · simp [e]
    · by_cases e2 : s = hb
      · simp [e2]
      · by_cases e3 : s = ha
        · simp [e3]
        · simp [e, e2, e3]⟩
  rw [apply_run (right_one name_ha h ab1) (by simp) (by simp) (wrong_two (good_new name_hb h) (good_new name_hab h) (fun e => hab_nb e.symm)) hrun hks]
  have e1 : ([ha, hab, hb].map (fun s => (⟨s, atF (updF (updF (updF (fun _ => none) ha a) hb a) hab a) s⟩ : Ref))) = [⟨ha, a⟩, ⟨hab, a⟩, ⟨hb, a⟩] := by
    simp [atF, updF, hb_ne, hab_ne, hab_nb, fun e => hab_ne (Eq.symm e), fun e => hb_ne (Eq.symm e), fun e => hab_nb (Eq.symm e)]
  rw [e1]
  have hf : fst (inWay [⟨ha, a⟩, ⟨hab, a⟩, ⟨hb, a⟩]) [(⟨hb, e0, a⟩ : Upd), ⟨hab, e0, a⟩] = 1 := by
    refine fst_some (i := 1) rfl ?_ (fun j y hj hy => ?_)
    · simp [inWay, bothB, ab2, hz]
    · have : j = 0 := by omega
      subst this
      cases hy
      simp [inWay, bothB, ab4, ab5, ab6, ab7, ab8]
  rw [hf]; rfl
theorem P3 : applyL [⟨ha, a⟩] [⟨ha, e0, a⟩] = ([⟨ha, a⟩], 92, 0) := by
  have hz := nm_size h
  have hrun : runU (mapL [⟨ha, a⟩]) 0 [(⟨ha, e0, a⟩ : Upd)] = .inl 0 := by
    have m1 : mapL [(⟨ha, a⟩ : Ref)] = updF (fun _ => none) ha a := rfl
    rw [m1, runU, if_neg]
    intro e
    have : a = e0 := by simpa [atF, updF] using e
    rw [this] at hz
    cases hz
  unfold applyL
  rw [if_neg (by rintro (k | k | k) <;> first | (rw [right_one name_ha h ab1] at k; cases k) | simp at k), if_neg (by rw [wrong_one (good_new name_ha h)]; decide), hrun]
  rfl
theorem P4 : applyL [⟨ha, a⟩] [⟨ha, a, e0⟩, ⟨hab, e0, a⟩] = ([⟨hab, a⟩], 0, 0) := by
  have hz := nm_size h
  have hrun : runU (mapL [⟨ha, a⟩]) 0 [(⟨ha, a, e0⟩ : Upd), ⟨hab, e0, a⟩] = .inr (updF (delF (updF (fun _ => none) ha a) ha) hab a) := by
    have m1 : mapL [(⟨ha, a⟩ : Ref)] = updF (fun _ => none) ha a := rfl
    rw [m1, runU, if_pos (by simp [atF, updF]), stepU_gone, runU, if_pos (by simp [atF, updF, delF, hab_ne, e0]), stepU_new _ _ _ hz]; rfl
  have hks : Mp.KeysOf (emb (updF (delF (updF (fun _ => none) ha a) ha) hab a)) [hab] := ⟨List.pairwise_singleton _ _, fun s => by
    rw [emb_some, List.mem_singleton, updF]
    by_cases e : s = hab
    · simp [e]
    · by_cases e2 : s = ha
      · simp [e, delF, e2, fun e => hab_ne (Eq.symm e)]
      · simp [e, delF, updF, e2]⟩
  rw [apply_run (right_one name_ha h ab1) (by simp) (by simp) (wrong_two (good_gone name_ha h) (good_new name_hab h) (fun e => hab_ne e.symm)) hrun hks]
  have e1 : ([hab].map (fun s => (⟨s, atF (updF (delF (updF (fun _ => none) ha a) ha) hab a) s⟩ : Ref))) = [⟨hab, a⟩] := by simp [atF, updF]
  rw [e1]
  have hf : fst (inWay [⟨hab, a⟩]) [(⟨ha, a, e0⟩ : Upd), ⟨hab, e0, a⟩] = -1 := fst_none (fun j y hy => by
    match j, hy with
    | 0, hy => cases hy; rw [inWay, decide_eq_false (show ¬ e0.size ≠ 0 by decide)]; rfl
    | 1, hy => cases hy; simp [inWay, bothB, ab3])
  rw [hf]; rfl
omit h in
theorem P6 : findL [⟨ha, a⟩] ha = a := by simp [findL]
omit h in
theorem P7 : (tipsL [⟨ha, a⟩]).length = 1 := by
  unfold tipsL riseL
  rw [List.length_mergeSort]
  simp [onceL]
end
end Go.Proofs.YtacgchklilfcaaaGreatDoor.Rf
namespace Go.Proofs.YtacgchklilfcaaaGreatDoor.Rf
set_option linter.unusedVariables false
set_option linter.unusedSimpArgs false
open Go Go.RowKit Go.Proofs.YtacgchklilfcaaaGreatDoorW.PrintWords Go.Proofs.YtacgchklilfcaaaGreatDoorW.PrintLast Go.Proofs.YtacgchklilfcaaaGreatDoorW.PrintMore PRfBase PRfGet Go.Proofs.YtacgchklilfcaaaGreatDoor.Gl
def bs (l : List UInt8) : ByteArray := ⟨l.toArray⟩
theorem L_bs (l : List UInt8) : L (bs l) = l := by simp [L, bs]
theorem bs_L (s : ByteArray) : bs (L s) = s := L_inj (L_bs _)
theorem bs_size (l : List UInt8) : (bs l).size = l.length := by rw [← L_len, L_bs]
def cutB (c : UInt8) : List UInt8 → List UInt8 × List UInt8 × Bool
  | [] => ([], [], false)
  | b :: r => if b = c then ([], r, true) else (b :: (cutB c r).1, (cutB c r).2.1, (cutB c r).2.2)
theorem cutB_none {c : UInt8} : ∀ {l : List UInt8}, Lib.indexByte l c = -1 → cutB c l = (l, [], false)
  | [], _ => rfl
  | b :: r, h => by
    rw [Lib.indexByte] at h
    by_cases hb : b = c
    · subst hb; simp at h
    · have hb' : (b == c) = false := by rw [beq_eq_false_iff_ne]; exact hb
      have hg := Lib.indexByte_ge r c
      rw [hb'] at h
      by_cases hr : Lib.indexByte r c = -1
      · rw [cutB, if_neg hb, cutB_none hr]
      · have : (Lib.indexByte r c == -1) = false := by rw [beq_eq_false_iff_ne]; exact hr
        rw [this] at h
        exact absurd h (by simp <;> omega)
theorem cutB_some {c : UInt8} : ∀ {l : List UInt8} {i : Nat}, Lib.indexByte l c = (i : Int) → cutB c l = (l.take i, l.drop (i + 1), true) ∧ i < l.length
  | [], i, h => by (simp [Lib.indexByte] at h) <;> omega
  | b :: r, i, h => by
    rw [Lib.indexByte] at h
    by_cases hb : b = c
    · subst hb
      simp at h
      have : i = 0 := by omega
      subst this
      simp [cutB]
    · have hb' : (b == c) = false := by rw [beq_eq_false_iff_ne]; exact hb
      have hg := Lib.indexByte_ge r c
      rw [hb'] at h
      by_cases hr : Lib.indexByte r c = -1
      · exact absurd h (by simp [hr] <;> omega)
      · have : (Lib.indexByte r c == -1) = false := by rw [beq_eq_false_iff_ne]; exact hr
        rw [this] at h
        simp at h
        obtain ⟨j, rfl⟩ : ∃ j, i = j + 1 := ⟨i - 1, by omega⟩
        obtain ⟨h1, h2⟩ := cutB_some (c := c) (l := r) (i := j) (by omega)
        rw [cutB, if_neg hb, h1]
        simp; omega
theorem cut_eq (s : ByteArray) (c : UInt8) (hs : s.size ≤ 1000000000000) : strings_Cut.f s ⟨#[c]⟩ = some (bs (cutB c (L s)).1, bs (cutB c (L s)).2.1, (cutB c (L s)).2.2) := by
  unfold strings_Cut.f stringslite_Cut.f
  have hi : lite_Index.f s ⟨#[c]⟩ = some (Lib.indexByte (L s) c) := by rw [lite_Index.f, show oneB ⟨#[c]⟩ = some c from rfl]; rfl
  rw [hi, Option.bind_some]
  have hg := Lib.indexByte_ge (L s) c
  by_cases hn : Lib.indexByte (L s) c = -1
  · rw [if_neg (by omega), cutB_none hn, bs_L]; rfl
  · obtain ⟨i, hi'⟩ : ∃ i : Nat, Lib.indexByte (L s) c = (i : Int) := ⟨(Lib.indexByte (L s) c).toNat, by omega⟩
    obtain ⟨h1, h2⟩ := cutB_some hi'
    rw [L_len] at h2
    have hw : wrap64 ((i : Int) + ((⟨#[c]⟩ : ByteArray).size : Int)) = ((i + 1 : Nat) : Int) := by
      have : (⟨#[c]⟩ : ByteArray).size = 1 := rfl
      rw [this, w64 _ (by omega) (by omega)]; omega
    rw [hi', if_pos (by omega), if_pos (by omega), if_pos (by omega), hw, if_pos (by omega), if_pos (by omega), h1, Option.bind_some, Int.toNat_natCast, Int.toNat_natCast]
    congr 2
    · apply L_inj
      rw [L_bs]; simp [L, ByteArray.data_extract]
    · congr 1
      apply L_inj
      rw [L_bs]
      simp only [L, ByteArray.data_extract, Array.toList_extract]
      rw [List.extract_eq_take_drop]
      exact List.take_of_length_le (by rw [List.length_drop, Array.length_toList]; exact Nat.le_refl _)
theorem cutB_len (c : UInt8) : ∀ l : List UInt8, (cutB c l).1.length + (cutB c l).2.1.length ≤ l.length ∧ (l ≠ [] → (cutB c l).2.1.length < l.length)
  | [] => ⟨by simp [cutB], fun h => absurd rfl h⟩
  | b :: r => by
    have ih := cutB_len c r
    rw [cutB]
    by_cases hb : b = c
    · rw [if_pos hb]; simp
    · rw [if_neg hb]
      refine ⟨by simp; omega, fun _ => ?_⟩
      by_cases hr : r = []
      · subst hr; simp [cutB]
      · have := ih.2 hr
        simp; omega
theorem cutB_app (c : UInt8) : ∀ (p r : List UInt8), (∀ x ∈ p, x ≠ c) → cutB c (p ++ c :: r) = (p, r, true)
  | [], r, _ => by simp [cutB]
  | b :: p, r, h => by
    have hb : b ≠ c := h b List.mem_cons_self
    rw [List.cons_append, cutB, if_neg hb, cutB_app c p r (fun x hx => h x (List.mem_cons_of_mem _ hx))]
def parseL : Nat → List UInt8 → List Ref
  | 0, _ => []
  | n + 1, s => if s = [] then [] else ⟨bs (cutB 32 (cutB 10 s).1).2.1, bs (cutB 32 (cutB 10 s).1).1⟩ :: parseL n (cutB 10 s).2.1
theorem parseL_nil (n : Nat) : parseL n [] = [] := by cases n <;> rfl
def readL (s : ByteArray) : List Ref := parseL s.size (L s)
def getL (s : ByteArray) : List Ref × Bool := if (putL (readL s)).2 = true ∧ (putL (readL s)).1 = s then (readL s, true) else ([], false)
theorem get_fin (s : ByteArray) (l : List Ref) (h : Zsh l) : ((Gv.put.f l).bind fun t => if t.2 = true then (if t.1.toList = s.toList then some (l, true) else some ([], false)) else some ([], false)) = some (if (putL l).2 = true ∧ (putL l).1 = s then (l, true) else ([], false)) := by
  rw [Gv.put.f_eq h, Option.bind_some]
  by_cases h1 : (putL l).2 = true
  · rw [if_pos h1]
    by_cases h2 : (putL l).1 = s
    · rw [if_pos ((toL_inj _ _).2 h2), if_pos ⟨h1, h2⟩]
    · rw [if_neg (fun e => h2 ((toL_inj _ _).1 e)), if_neg (fun e => h2 e.2)]
  · rw [if_neg h1, if_neg (fun e => h1 e.1)]
theorem get_l0 (s : ByteArray) : ∀ (n : Nat) (r : List UInt8) (acc : List Ref), r.length ≤ n → r.length ≤ 1000000000 → acc.length + r.length ≤ 1000000000 → Zsh acc → Zsh (acc ++ parseL n r) → Ev (fun k => refs_Get.l0 k s acc (bs r)) (if (putL (acc ++ parseL n r)).2 = true ∧ (putL (acc ++ parseL n r)).1 = s then (acc ++ parseL n r, true) else ([], false)) := by
  intro n
  induction n with
  | zero =>
    intro r acc hr _ _ hz _
    have : r = [] := List.eq_nil_of_length_eq_zero (by omega)
    subst this
    refine Ev.step (f := fun _ => some _) (fun k => ?_) (Ev.now _)
    simp only [refs_Get.l0]
    rw [if_pos (by rw [toL, L_bs]), parseL_nil, List.append_nil]
    exact get_fin s acc hz
  | succ n ih =>
    intro r acc hr h9 ha hz hz2
    by_cases hn : r = []
    · subst hn
      refine Ev.step (f := fun _ => some _) (fun k => ?_) (Ev.now _)
      simp only [refs_Get.l0]
      rw [if_pos (by rw [toL, L_bs]), parseL_nil, List.append_nil]
      exact get_fin s acc hz
    · have hlen := cutB_len 10 r
      have hlt := hlen.2 hn
      have hlen2 := cutB_len 32 (cutB 10 r).1
      have hp : parseL (n + 1) r = ⟨bs (cutB 32 (cutB 10 r).1).2.1, bs (cutB 32 (cutB 10 r).1).1⟩ :: parseL n (cutB 10 r).2.1 := by rw [parseL, if_neg hn]
      have e : acc ++ parseL (n + 1) r = (acc ++ [⟨bs (cutB 32 (cutB 10 r).1).2.1, bs (cutB 32 (cutB 10 r).1).1⟩]) ++ parseL n (cutB 10 r).2.1 := by rw [hp]; simp
      rw [e] at hz2 ⊢
      have hz3 : Zsh (acc ++ [⟨bs (cutB 32 (cutB 10 r).1).2.1, bs (cutB 32 (cutB 10 r).1).1⟩]) := fun x hx => hz2 x (List.mem_append_left _ hx)
      refine Ev.step (fun k => ?_) (ih (cutB 10 r).2.1 (acc ++ [⟨bs (cutB 32 (cutB 10 r).1).2.1, bs (cutB 32 (cutB 10 r).1).1⟩]) (by omega) (by omega) (by rw [List.length_append]; simp; omega) hz3 hz2)
      simp only [refs_Get.l0]
      rw [if_neg (by rw [toL, L_bs]; exact hn), cut_eq _ _ (by rw [bs_size]; omega), Option.bind_some, cut_eq _ _ (by rw [bs_size, L_bs]; omega), Option.bind_some, if_pos (by omega), L_bs, L_bs]
theorem parse_sh : ∀ (n : Nat) (r : List UInt8), r.length ≤ 1000000000 → Zsh (parseL n r)
  | 0, _, _ => by intro x hx; cases hx
  | n + 1, r, h => by
    rw [parseL]
    by_cases hn : r = []
    · rw [if_pos hn]; intro x hx; cases hx
    · rw [if_neg hn]
      have hlen := (cutB_len 10 r).1
      have hlen2 := (cutB_len 32 (cutB 10 r).1).1
      intro x hx
      rcases List.mem_cons.1 hx with rfl | hx
      · exact ⟨by rw [bs_size]; omega, by rw [bs_size]; omega⟩
      · exact parse_sh n _ (by omega) x hx
theorem get_ev (s : ByteArray) (hs : s.size ≤ 1000000000) : Ev (fun k => refs_Get.f k s) (getL s) := by
  have h := get_l0 s s.size (L s) [] (by rw [L_len]; exact Nat.le_refl _) (by rw [L_len]; exact hs) (by rw [L_len]; simp; exact hs) (fun x hx => by cases hx) (parse_sh _ _ (by rw [L_len]; exact hs))
  rw [bs_L, List.nil_append] at h
  unfold getL readL
  exact h
theorem rightB_parts {l : List Ref} (h : rightB l = true) : (∀ (i : Nat) (x : Ref), l[i]? = some x → okAt l i x = true) ∧ l.length ≤ 64 := by
  unfold rightB at h
  rw [Bool.and_eq_true, decide_eq_true_iff, List.all_eq_true] at h
  exact ⟨fun i x hx => h.1 (x, i) (List.mem_of_getElem? (i := i) (by simp [List.getElem?_zipIdx, hx])), h.2⟩
theorem okAt_parts {l : List Ref} {i : Nat} {x : Ref} (h : okAt l i x = true) : nameB x.f0 = true ∧ nmB x.f1 = true ∧ (i = 0 ∨ L ((l[i - 1]?.getD noRef).f0) < L x.f0) ∧ ∀ y ∈ l, aboveB y.f0 x.f0 = false := by
  unfold okAt at h
  rw [Bool.and_eq_true, Bool.and_eq_true, Bool.and_eq_true, Bool.or_eq_true, beq_iff_eq, decide_eq_true_iff, Bool.not_eq_true', List.any_eq_false] at h
  exact ⟨h.1.1.1, h.1.1.2, h.1.2, fun y hy => by simpa using h.2 y hy⟩
theorem rightB_mem {l : List Ref} (h : rightB l = true) {x : Ref} (hx : x ∈ l) : nameB x.f0 = true ∧ nmB x.f1 = true := by
  obtain ⟨i, hi⟩ := List.getElem?_of_mem hx
  have := okAt_parts ((rightB_parts h).1 i x hi)
  exact ⟨this.1, this.2.1⟩
theorem nm_bytes {s : ByteArray} (h : nmB s = true) : ∀ b ∈ L s, b ≠ 32 ∧ b ≠ 10 := by
  unfold nmB at h
  rw [Bool.and_eq_true, List.all_eq_true] at h
  intro b hb
  have := (hexOk_iff b).1 (h.1 b hb)
  exact ⟨by rintro rfl; revert this; decide, by rintro rfl; revert this; decide⟩
theorem mem_parts (c : UInt8) : ∀ (l : List UInt8) (b : UInt8), b ∈ l → b = c ∨ ∃ p ∈ splitL c l, b ∈ p
  | x :: r, b, h => by
    rw [splitL]
    by_cases hx : x = c
    · rw [if_pos hx]
      rcases List.mem_cons.1 h with rfl | h
      · exact .inl hx
      · rcases mem_parts c r b h with h | ⟨p, hp, hb⟩
        · exact .inl h
        · exact .inr ⟨p, List.mem_cons_of_mem _ hp, hb⟩
    · rw [if_neg hx]
      rcases hs : splitL c r with _ | ⟨q, t⟩
      · have := splitL_len c r; rw [hs] at this; simp at this
      · rcases List.mem_cons.1 h with rfl | h
        · exact .inr ⟨_, List.mem_cons_self, List.mem_cons_self⟩
        · rcases mem_parts c r b h with h | ⟨p, hp, hb⟩
          · exact .inl h
          · rw [hs] at hp
            rcases List.mem_cons.1 hp with rfl | hp
            · exact .inr ⟨_, List.mem_cons_self, List.mem_cons_of_mem _ hb⟩
            · exact .inr ⟨p, List.mem_cons_of_mem _ hp, hb⟩
theorem nameB_parts {s : ByteArray} (h : nameB s = true) : s.size ≤ 80 ∧ 2 ≤ (splitS 47 s).length ∧ (splitS 47 s).length ≤ 4 ∧ ((splitS 47 s).head? = some heads ∨ (splitS 47 s).head? = some tags) ∧ ∀ p ∈ (splitS 47 s).drop 1, letB p = true := by
  unfold nameB at h
  rw [Bool.and_eq_true, Bool.and_eq_true, Bool.and_eq_true, Bool.and_eq_true, Bool.or_eq_true] at h
  simp only [decide_eq_true_iff, List.all_eq_true] at h
  exact ⟨h.1.1.1, h.1.1.2.1, h.1.1.2.2, h.1.2, h.2⟩
theorem letB_bytes {p : ByteArray} (h : letB p = true) : ∀ b ∈ L p, letOk b = true := by
  unfold letB at h
  rw [Bool.and_eq_true, List.all_eq_true] at h
  exact h.1
theorem name_bytes {s : ByteArray} (h : nameB s = true) : ∀ b ∈ L s, b ≠ 10 := by
  obtain ⟨_, _, _, hh, ht⟩ := nameB_parts h
  intro b hb
  rcases mem_parts 47 (L s) b hb with rfl | ⟨p, hp, hbp⟩
  · decide
  · have hq : Gl.strOf p ∈ splitS 47 s := List.mem_map.2 ⟨p, hp, rfl⟩
    have hbq : b ∈ L (Gl.strOf p) := by simpa [Gl.strOf, L] using hbp
    rcases hS : splitS 47 s with _ | ⟨q, t⟩
    · rw [hS] at hq; cases hq
    · rw [hS] at hq hh ht
      rcases List.mem_cons.1 hq with e | hm
      · rw [e] at hbq
        rcases hh with hh | hh
        · obtain rfl := Option.some.inj hh
          exact (show ∀ b ∈ L heads, b ≠ 10 by decide) b hbq
        · obtain rfl := Option.some.inj hh
          exact (show ∀ b ∈ L tags, b ≠ 10 by decide) b hbq
      · have := (letOk_iff b).1 (letB_bytes (ht _ hm) b hbq)
        rintro rfl
        revert this
        decide
theorem parse_lines : ∀ (l : List Ref) (n : Nat), (∀ x ∈ l, nameB x.f0 = true ∧ nmB x.f1 = true) → (linesL l).length ≤ n → parseL n (linesL l) = l
  | [], n, _, _ => parseL_nil n
  | x :: r, n, h, hn => by
    have hx := h x List.mem_cons_self
    have e : linesL (x :: r) = (L x.f1 ++ 32 :: L x.f0) ++ 10 :: linesL r := by
      simp [linesL, lineS, L, ByteArray.data_append]
    have hle : (linesL (x :: r)).length = x.f1.size + 1 + x.f0.size + 1 + (linesL r).length := by rw [e]; simp; omega
    obtain ⟨m, rfl⟩ : ∃ m, n = m + 1 := ⟨n - 1, by omega⟩
    have hc : cutB 10 (linesL (x :: r)) = (L x.f1 ++ 32 :: L x.f0, linesL r, true) := by
      rw [e]
      refine cutB_app 10 _ _ (fun b hb => ?_)
      rcases List.mem_append.1 hb with hb | hb
      · exact (nm_bytes hx.2 b hb).2
      · rcases List.mem_cons.1 hb with rfl | hb
        · decide
        · exact name_bytes hx.1 b hb
    have hc2 : cutB 32 (L x.f1 ++ 32 :: L x.f0) = (L x.f1, L x.f0, true) := cutB_app 32 _ _ (fun b hb => (nm_bytes hx.2 b hb).1)
    rw [parseL, if_neg (by intro h0; rw [h0] at hle; simp at hle; omega), hc]
    simp only [hc2, bs_L]
    rw [parse_lines r m (fun y hy => h y (List.mem_cons_of_mem _ hy)) (by omega)]
theorem L_text (l : List Ref) : L (textL l) = linesL l := by simp [L, textL]
theorem read_text {l : List Ref} (h : rightB l = true) : readL (textL l) = l := by
  unfold readL
  rw [L_text]
  refine parse_lines l _ (fun x hx => rightB_mem h hx) ?_
  rw [← L_len, L_text]; exact Nat.le_refl _
theorem put_right {l : List Ref} (h : rightB l = true) : putL l = (textL l, true) := by rw [putL, h]; rfl
theorem get_text {l : List Ref} (h : rightB l = true) : getL (textL l) = (l, true) := by
  unfold getL
  rw [read_text h, put_right h, if_pos ⟨rfl, rfl⟩]
end Go.Proofs.YtacgchklilfcaaaGreatDoor.Rf
namespace Go.Proofs.YtacgchklilfcaaaGreatDoor.Rf
set_option linter.unusedVariables false
set_option linter.unusedSimpArgs false
open Go Go.RowKit Go.Proofs.YtacgchklilfcaaaGreatDoorW.PrintWords Go.Proofs.YtacgchklilfcaaaGreatDoorW.PrintLast Go.Proofs.YtacgchklilfcaaaGreatDoorW.PrintMore PRfBase PRfGet Go.Proofs.YtacgchklilfcaaaGreatDoor.Gl
def Zs (l : List Ref) : Prop := l.length ≤ 100 ∧ ∀ x ∈ l, x.f0.size < 20000 ∧ x.f1.size < 20000
theorem Zs.zsh {l : List Ref} (h : Zs l) : Zsh l := fun x hx => by have := h.2 x hx; omega
theorem Zs.rsh {l : List Ref} (h : Zs l) : Rsh l := fun x hx => by have := h.2 x hx; omega
def Zu (l : List Upd) : Prop := l.length ≤ 40 ∧ ∀ x ∈ l, x.f0.size < 9000 ∧ x.f1.size < 9000 ∧ x.f2.size < 9000
theorem Zu.ush {l : List Upd} (h : Zu l) : Ush l := fun x hx => by have := h.2 x hx; exact ⟨by omega, by omega, by omega⟩
theorem mn_nat (a : Nat) (b : Int) : mn (a : Int) b = min (a : Int) b := by unfold mn; omega
theorem great_l0 (l : List Ref) (hl : l.length < 20000) : ∀ (d i : Nat) (n : Int), l.length - i = d → i ≤ l.length → 0 ≤ n → n ≤ 100000 → (n < 20000 → ∀ j x, j < i → l[j]? = some x → x.f0.size < 20000 ∧ x.f1.size < 20000) →
    ∃ b, Ev (fun k => w09_Great.l0 k l n (i : Int)) b ∧ (b = false → Zs l) := by
  intro d
  induction d with
  | zero =>
    intro i n hd hi h0 h1 hs
    have hin : i = l.length := by omega
    subst hin
    by_cases hn : n ≥ 20000
    · refine ⟨true, Ev.step (f := fun _ => some true) (fun k => ?_) (Ev.now _), fun h => by cases h⟩
      simp only [w09_Great.l0]
      rw [if_neg (by omega), if_pos hn]
    · refine ⟨decide ((l.length : Int) > 100), Ev.step (f := fun _ => some _) (fun k => ?_) (Ev.now _), fun h => ?_⟩
      · simp only [w09_Great.l0]
        rw [if_neg (by omega), if_neg hn]
      · have h2 := of_decide_eq_false h
        refine ⟨by omega, fun x hx => ?_⟩
        obtain ⟨j, hj⟩ := List.getElem?_of_mem hx
        exact hs (by omega) j x (List.getElem?_eq_some_iff.1 hj).1 hj
  | succ d ih =>
    intro i n hd hi h0 h1 hs
    have hil : i < l.length := by omega
    by_cases hn : n < 20000
    · obtain ⟨x, hx⟩ : ∃ x, l[i]? = some x := ⟨_, List.getElem?_eq_getElem hil⟩
      have hrd : rd_T46 l (i : Int) = x := by simp [rd_T46, hx]
      have e1 : wrap64 ((wrap64 (n + mn (x.f0.size : Int) 20000)) + mn (x.f1.size : Int) 20000) = n + min (x.f0.size : Int) 20000 + min (x.f1.size : Int) 20000 := by
        rw [mn_nat, mn_nat, w64 (n + _) (by omega) (by omega), w64 _ (by omega) (by omega)]
      have e2 : wrap64 ((i : Int) + 1) = ((i + 1 : Nat) : Int) := by rw [w64 _ (by omega) (by omega)]; omega
      obtain ⟨b, hb, hb2⟩ := ih (i + 1) (n + min (x.f0.size : Int) 20000 + min (x.f1.size : Int) 20000) (by omega) (by omega) (by omega) (by omega) (fun hlt j y hj hy => by
        rcases Nat.lt_succ_iff_lt_or_eq.1 hj with hj | rfl
        · exact hs hn j y hj hy
        · rw [hx] at hy; cases hy; exact ⟨by omega, by omega⟩)
      refine ⟨b, Ev.step (fun k => ?_) hb, hb2⟩
      simp only [w09_Great.l0]
      rw [if_pos (by omega), if_pos hn, if_pos (by omega), hrd, e1, e2]
    · refine ⟨true, Ev.step (f := fun _ => some true) (fun k => ?_) (Ev.now _), fun h => by cases h⟩
      simp only [w09_Great.l0]
      rw [if_pos (by omega), if_neg hn, if_pos (by omega)]
theorem great_ev (l : List Ref) : ∃ b, Ev (fun k => w09_Great.f k l) b ∧ (b = false → Zs l) := by
  by_cases hl : l.length < 20000
  · exact great_l0 l hl l.length 0 (l.length : Int) (by omega) (by omega) (by omega) (by omega) (fun _ j x hj => by omega)
  · refine ⟨true, Ev.step (f := fun _ => some true) (fun k => ?_) (Ev.now _), fun h => by cases h⟩
    simp only [w09_Great.f, w09_Great.l0]
    rw [if_pos (by omega), if_neg (by omega), if_pos (by omega)]
theorem greatU_l0 (l : List Upd) (hl : l.length < 9000) : ∀ (d i : Nat) (n : Int), l.length - i = d → i ≤ l.length → 0 ≤ n → n ≤ 100000 → (n < 9000 → ∀ j x, j < i → l[j]? = some x → x.f0.size < 9000 ∧ x.f1.size < 9000 ∧ x.f2.size < 9000) →
    ∃ b, Ev (fun k => w09_GreatUpdates.l0 k l n (i : Int)) b ∧ (b = false → Zu l) := by
  intro d
  induction d with
  | zero =>
    intro i n hd hi h0 h1 hs
    have hin : i = l.length := by omega
    subst hin
    by_cases hn : n ≥ 9000
    · refine ⟨true, Ev.step (f := fun _ => some true) (fun k => ?_) (Ev.now _), fun h => by cases h⟩
      simp only [w09_GreatUpdates.l0]
      rw [if_neg (by omega), if_pos hn]
    · refine ⟨decide ((l.length : Int) > 40), Ev.step (f := fun _ => some _) (fun k => ?_) (Ev.now _), fun h => ?_⟩
      · simp only [w09_GreatUpdates.l0]
        rw [if_neg (by omega), if_neg hn]
      · have h2 := of_decide_eq_false h
        refine ⟨by omega, fun x hx => ?_⟩
        obtain ⟨j, hj⟩ := List.getElem?_of_mem hx
        exact hs (by omega) j x (List.getElem?_eq_some_iff.1 hj).1 hj
  | succ d ih =>
    intro i n hd hi h0 h1 hs
    have hil : i < l.length := by omega
    by_cases hn : n < 9000
    · obtain ⟨x, hx⟩ : ∃ x, l[i]? = some x := ⟨_, List.getElem?_eq_getElem hil⟩
      have hrd : rd_T40 l (i : Int) = x := by simp [rd_T40, hx]
      have e1 : wrap64 ((wrap64 ((wrap64 (n + mn (x.f0.size : Int) 9000)) + mn (x.f1.size : Int) 9000)) + mn (x.f2.size : Int) 9000) = n + min (x.f0.size : Int) 9000 + min (x.f1.size : Int) 9000 + min (x.f2.size : Int) 9000 := by
        rw [mn_nat, mn_nat, mn_nat, w64 (n + _) (by omega) (by omega), w64 (n + _ + _) (by omega) (by omega), w64 _ (by omega) (by omega)]
      have e2 : wrap64 ((i : Int) + 1) = ((i + 1 : Nat) : Int) := by rw [w64 _ (by omega) (by omega)]; omega
      obtain ⟨b, hb, hb2⟩ := ih (i + 1) (n + min (x.f0.size : Int) 9000 + min (x.f1.size : Int) 9000 + min (x.f2.size : Int) 9000) (by omega) (by omega) (by omega) (by omega) (fun hlt j y hj hy => by
        rcases Nat.lt_succ_iff_lt_or_eq.1 hj with hj | rfl
        · exact hs hn j y hj hy
        · rw [hx] at hy; cases hy; exact ⟨by omega, by omega, by omega⟩)
      refine ⟨b, Ev.step (fun k => ?_) hb, hb2⟩
      simp only [w09_GreatUpdates.l0]
      rw [if_pos (by omega), if_pos hn, if_pos (by omega), hrd, e1, e2]
    · refine ⟨true, Ev.step (f := fun _ => some true) (fun k => ?_) (Ev.now _), fun h => by cases h⟩
      simp only [w09_GreatUpdates.l0]
      rw [if_pos (by omega), if_neg hn, if_pos (by omega)]
theorem greatU_ev (l : List Upd) : ∃ b, Ev (fun k => w09_GreatUpdates.f k l) b ∧ (b = false → Zu l) := by
  by_cases hl : l.length < 9000
  · exact greatU_l0 l hl l.length 0 (l.length : Int) (by omega) (by omega) (by omega) (by omega) (fun _ j x hj => by omega)
  · refine ⟨true, Ev.step (f := fun _ => some true) (fun k => ?_) (Ev.now _), fun h => by cases h⟩
    simp only [w09_GreatUpdates.f, w09_GreatUpdates.l0]
    rw [if_pos (by omega), if_neg (by omega), if_pos (by omega)]
theorem ref_ext {x y : Ref} (h0 : x.f0 = y.f0) (h1 : x.f1 = y.f1) : x = y := by cases x; cases y; cases h0; cases h1; rfl
theorem same_l0 (a b : List Ref) (hl : a.length = b.length) (hm : a.length ≤ 1000000000) : ∀ (d i : Nat), a.length - i = d → i ≤ a.length → ∃ r, Ev (fun k => r09_Same.l0 k a b (i : Int)) r ∧ (r = true ↔ a.drop i = b.drop i) := by
  intro d
  induction d with
  | zero =>
    intro i hd hi
    refine ⟨true, Ev.step (f := fun _ => some true) (fun k => ?_) (Ev.now _), ?_⟩
    · simp only [r09_Same.l0]
      rw [if_neg (by omega)]
    · rw [List.drop_of_length_le (by omega), List.drop_of_length_le (by omega)]; exact ⟨fun _ => rfl, fun _ => rfl⟩
  | succ d ih =>
    intro i hd hi
    have hil : i < a.length := by omega
    have hib : i < b.length := by omega
    obtain ⟨x, hx⟩ : ∃ x, a[i]? = some x := ⟨_, List.getElem?_eq_getElem hil⟩
    obtain ⟨y, hy⟩ : ∃ y, b[i]? = some y := ⟨_, List.getElem?_eq_getElem hib⟩
    have hrx : rd_T46 a (i : Int) = x := by simp [rd_T46, hx]
    have hry : rd_T46 b (i : Int) = y := by simp [rd_T46, hy]
    have ea : a.drop i = x :: a.drop (i + 1) := by rw [List.drop_eq_getElem_cons hil, (List.getElem?_eq_some_iff.1 hx).2]
    have eb : b.drop i = y :: b.drop (i + 1) := by rw [List.drop_eq_getElem_cons hib, (List.getElem?_eq_some_iff.1 hy).2]
    have e2 : wrap64 ((i : Int) + 1) = ((i + 1 : Nat) : Int) := by rw [w64 _ (by omega) (by omega)]; omega
    by_cases hxy : x = y
    · subst hxy
      obtain ⟨r, hr, hr2⟩ := ih (i + 1) (by omega) (by omega)
      refine ⟨r, Ev.step (fun k => ?_) hr, ?_⟩
      · simp only [r09_Same.l0]
        rw [if_pos (by omega), if_pos (by omega), if_pos (by omega), hrx, hry, if_neg (by simp), e2]
      · rw [hr2, ea, eb, List.cons.injEq]; simp
    · refine ⟨false, Ev.step (f := fun _ => some false) (fun k => ?_) (Ev.now _), ?_⟩
      · simp only [r09_Same.l0]
        rw [if_pos (by omega), if_pos (by omega), if_pos (by omega), hrx, hry, if_pos]
        by_cases h0 : x.f0 = y.f0
        · have h1 : ¬ x.f1 = y.f1 := fun h1 => hxy (ref_ext h0 h1)
          have : (x.f1.toList == y.f1.toList) = false := by rw [beq_eq_false_iff_ne]; exact fun e => h1 ((toL_inj _ _).1 e)
          rw [this]; simp
        · have : (x.f0.toList == y.f0.toList) = false := by rw [beq_eq_false_iff_ne]; exact fun e => h0 ((toL_inj _ _).1 e)
          rw [this]; simp
      · rw [ea, eb, List.cons.injEq]
        exact iff_of_false (by simp) (fun h => hxy h.1)
open Classical in
noncomputable def sameB (a b : List Ref) : Bool := decide (a = b)
theorem sameB_iff (a b : List Ref) : sameB a b = true ↔ a = b := by unfold sameB; classical exact decide_eq_true_iff
theorem same_ev (a b : List Ref) (hm : a.length ≤ 1000000000) : Ev (fun k => r09_Same.f k a b) (sameB a b) := by
  unfold r09_Same.f
  by_cases hl : a.length = b.length
  · obtain ⟨r, hr, hr2⟩ := same_l0 a b hl hm a.length 0 (by omega) (by omega)
    rw [List.drop_zero, List.drop_zero] at hr2
    have : r = sameB a b := by rw [Bool.eq_iff_iff, hr2, sameB_iff]
    rw [← this]
    exact Ev.congr (fun k => if_pos (by omega)) hr
  · have : sameB a b = false := by
      rw [← Bool.not_eq_true, sameB_iff]
      exact fun h => hl (by rw [h])
    rw [this]
    exact Ev.congr (fun k => if_neg (by omega)) (Ev.now _)
end Go.Proofs.YtacgchklilfcaaaGreatDoor.Rf
