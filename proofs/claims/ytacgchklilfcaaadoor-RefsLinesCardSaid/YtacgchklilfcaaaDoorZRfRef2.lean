/- The document's lines of refs, plainly. No condition but the reach of what comes in. -/
import Derived.Test.YtacgchklilfcaaaDoorZRfRef
namespace Go.Proofs.YtacgchklilfcaaaDoor.Rf
set_option linter.unusedVariables false
set_option linter.unusedSimpArgs false
set_option linter.unusedSectionVars false
open Go Go.RowKit Go.Proofs.YtacgchklilfcaaaDoorW.PrintWords Go.Proofs.YtacgchklilfcaaaDoorW.PrintLast Go.Proofs.YtacgchklilfcaaaDoorW.PrintMore PRfBase PRfGet Go.Proofs.YtacgchklilfcaaaDoor.Gl
theorem putL_snd' (l : List Ref) : (putL l).2 = rightB l := by
  unfold putL
  cases rightB l <;> rfl
theorem Rt.lines {l : List Ref} (h : Rt l) (i : Nat) : (linesL (l.take i)).length ≤ i * 146 := by
  have : ∀ m : List Ref, (∀ x ∈ m, x.f0.size ≤ 80 ∧ x.f1.size = 64) → (linesL m).length ≤ m.length * 146 := by
    intro m
    induction m with
    | nil => intro _; simp [linesL]
    | cons x r ih =>
      intro hm
      have h1 := hm x List.mem_cons_self
      have h2 := ih (fun y hy => hm y (List.mem_cons_of_mem _ hy))
      have e : linesL (x :: r) = L (lineS x) ++ linesL r := by simp [linesL]
      rw [e, List.length_append, L_len, lineS_size, List.length_cons]
      omega
  have h1 := this (l.take i) (fun x hx => by
    have := h.each x (List.mem_of_mem_take hx)
    exact ⟨(nameB_parts this.1).1, nm_size this.2⟩)
  have h2 : (l.take i).length ≤ i := by rw [List.length_take]; omega
  have := Nat.mul_le_mul_right 146 h2
  omega
theorem rput_l0 (l : List Ref) (h : Rt l) : ∀ (d i : Nat) (b : ByteArray), l.length - i = d → i ≤ l.length → L b = linesL (l.take i) → Ev (fun k => sacristyref09_Put.l0 k l b (i : Int)) (textL l, true) := by
  have h64 := h.few
  intro d
  induction d with
  | zero =>
    intro i b hi hil hb
    rw [List.take_of_length_le (by omega)] at hb
    have : b = textL l := L_inj (by rw [hb, L_text])
    subst this
    refine Ev.step (f := fun _ => some (textL l, true)) (fun k => ?_) (Ev.now _)
    simp only [sacristyref09_Put.l0]
    rw [if_neg (by omega)]
  | succ d ih =>
    intro i b hi hil hb
    have hlt : i < l.length := by omega
    obtain ⟨x, hx⟩ : ∃ x, l[i]? = some x := ⟨_, List.getElem?_eq_getElem hlt⟩
    have hx2 := h.each x (List.mem_of_getElem? hx)
    have hx3 := (nameB_parts hx2.1).1
    have hx4 := nm_size hx2.2
    have hbs : b.size ≤ i * 146 := by rw [← L_len, hb]; exact h.lines i
    have s1 : (b ++ x.f1).size = b.size + x.f1.size := ByteArray.size_append
    have s2 : ((b ++ x.f1) ++ (⟨#[32]⟩ : ByteArray)).size = b.size + x.f1.size + 1 := by rw [ByteArray.size_append, s1]; rfl
    have s3 : (((b ++ x.f1) ++ (⟨#[32]⟩ : ByteArray)) ++ x.f0).size = b.size + x.f1.size + 1 + x.f0.size := by rw [ByteArray.size_append, s2]
    refine Ev.step (fun k => ?_) (ih (i + 1) ((((b ++ x.f1) ++ (⟨#[32]⟩ : ByteArray)) ++ x.f0) ++ (⟨#[10]⟩ : ByteArray)) (by omega) (by omega) ?_)
    · simp only [sacristyref09_Put.l0]
      rw [if_pos (by omega), if_pos (by omega), rdR hx, if_pos (by omega), if_pos (by rw [s1]; omega), if_pos (by rw [s2]; omega), if_pos (by rw [s3]; omega), wr1 hlt (by omega)]
    · rw [lines_step hx, ← hb]
      simp [L, lineS, ByteArray.data_append]
theorem rput_ev (l : List Ref) (hl : l.length ≤ 1000000000) : Ev (fun k => sacristyref09_Put.f k l) (putL l) := by
  unfold sacristyref09_Put.f
  refine Ev.bind (rright_ev l hl) ?_
  by_cases h : rightB l = true
  · rw [put_right h]
    exact Ev.congr (fun k => if_pos h) (rput_l0 l (rt_of h) l.length 0 _ rfl (Nat.zero_le _) rfl)
  · have e : putL l = (⟨#[]⟩, false) := by rw [putL, if_neg h]
    rw [e]
    exact Ev.congr (fun k => if_neg h) (Ev.now _)
theorem cutB_spec (c : UInt8) : ∀ l : List UInt8, (∀ x ∈ (cutB c l).1, x ≠ c) ∧ (((cutB c l).2.2 = true ∧ l = (cutB c l).1 ++ c :: (cutB c l).2.1) ∨ ((cutB c l).2.2 = false ∧ l = (cutB c l).1 ∧ (cutB c l).2.1 = []))
  | [] => ⟨by simp [cutB], .inr ⟨rfl, rfl, rfl⟩⟩
  | b :: r => by
    obtain ⟨h1, h2⟩ := cutB_spec c r
    rw [cutB]
    by_cases hb : b = c
    · subst hb; simp
    · rw [if_neg hb]
      refine ⟨fun x hx => ?_, ?_⟩
      · rcases List.mem_cons.1 hx with rfl | hx
        · exact hb
        · exact h1 x hx
      · rcases h2 with ⟨g1, g2⟩ | ⟨g1, g2, g3⟩
        · exact .inl ⟨g1, by show b :: r = b :: ((cutB c r).1 ++ c :: (cutB c r).2.1); rw [← g2]⟩
        · exact .inr ⟨g1, by show b :: r = b :: (cutB c r).1; rw [← g2], g3⟩
/-- The document's refs of lines. -/
def parseR : Nat → List UInt8 → Option (List Ref)
  | 0, s => if s = [] then some [] else none
  | n + 1, s => if s = [] then some [] else if (cutB 10 s).2.2 = true ∧ 65 ≤ (cutB 10 s).1.length then (parseR n (cutB 10 s).2.1).map (fun r => ⟨bs ((cutB 10 s).1.drop 65), bs ((cutB 10 s).1.take 64)⟩ :: r) else none
/-- What comes of refs that were read. -/
def endR (s : ByteArray) (l : List Ref) : List Ref × Bool := if (putL l).2 = true ∧ (putL l).1 = s then (l, true) else ([], false)
theorem rget_scan (s : ByteArray) (hs : s.size ≤ 1000000000) (acc : List Ref) (a m : Nat) (hm : m ≤ s.size) (hno : ∀ i u, a ≤ i → i < m → (L s)[i]? = some u → u ≠ 10) (r : List Ref × Bool) (h : Ev (fun k => sacristyref09_Get.l1 k s acc (a : Int) (m : Int)) r) : ∀ (d j : Nat), m - j = d → j ≤ m → a ≤ j → Ev (fun k => sacristyref09_Get.l1 k s acc (a : Int) (j : Int)) r := by
  intro d
  induction d with
  | zero =>
    intro j hd hj _
    obtain rfl : j = m := by omega
    exact h
  | succ d ih =>
    intro j hd hj haj
    obtain ⟨u, hu⟩ : ∃ u, (L s)[j]? = some u := ⟨_, List.getElem?_eq_getElem (by rw [L_len]; omega)⟩
    have hn : ¬ (u.toNat : Int) = 10 := by
      intro e
      refine hno j u haj (by omega) hu (UInt8.toNat_inj.1 ?_)
      have : (10 : UInt8).toNat = 10 := rfl
      omega
    have hw := wr1 (i := j) (n := s.size) (by omega) (by omega)
    refine Ev.step (fun k => ?_) (ih (j + 1) (by omega) (by omega) (by omega))
    simp only [sacristyref09_Get.l1]
    rw [if_pos (by omega), if_pos (by omega), bt_get hu _ rfl, if_neg hn, hw]
theorem rget_found (s : ByteArray) (hs : s.size ≤ 1000000000) (acc : List Ref) (a n : Nat) (hlt : a + n < s.size) (h10 : (L s)[a + n]? = some 10) (h65 : 65 ≤ n) (hacc : acc.length ≤ a) (r : List Ref × Bool)
    (h : Ev (fun k => sacristyref09_Get.l0 k s (acc ++ [⟨s.extract (a + 65) (a + n), s.extract a (a + 64)⟩]) ((a + n + 1 : Nat) : Int)) r) : Ev (fun k => sacristyref09_Get.l1 k s acc (a : Int) ((a + n : Nat) : Int)) r := by
  have c1 : ((a + n : Nat) : Int) < (s.size : Int) := by omega
  have c2 : (0 : Int) ≤ ((a + n : Nat) : Int) := by omega
  have c3 : ¬ ((a + n : Nat) : Int) = (s.size : Int) := by omega
  have c4 : ¬ (n : Int) < 65 := by omega
  have c5 : (0 : Int) ≤ (a : Int) := by omega
  have c6 : (a : Int) ≤ ((a + 64 : Nat) : Int) := by omega
  have c7 : ((a + 64 : Nat) : Int) ≤ (s.size : Int) := by omega
  have c8 : (0 : Int) ≤ ((a + 65 : Nat) : Int) := by omega
  have c9 : ((a + 65 : Nat) : Int) ≤ ((a + n : Nat) : Int) := by omega
  have c10 : ((a + n : Nat) : Int) ≤ (s.size : Int) := by omega
  have c11 : acc.length < 4398046511104 := by omega
  have w0 : wrap64 (((a + n : Nat) : Int) - (a : Int)) = (n : Int) := by rw [w64 _ (by omega) (by omega)]; omega
  have w1 : wrap64 ((a : Int) + 64) = ((a + 64 : Nat) : Int) := by rw [w64 _ (by omega) (by omega)]; omega
  have w2 : wrap64 ((a : Int) + 65) = ((a + 65 : Nat) : Int) := by rw [w64 _ (by omega) (by omega)]; omega
  have w3 := wr1 hlt (Nat.le_trans hs (by decide))
  refine Ev.step (fun k => ?_) h
  simp only [sacristyref09_Get.l1]
  rw [if_pos c1, if_pos c2, bt_get h10 _ rfl, if_pos (show ((10 : UInt8).toNat : Int) = 10 from rfl), if_neg c3, w0, if_neg c4, if_pos c5, w1, w2, if_pos c6, if_pos c7, if_pos c8, if_pos c9, if_pos c10, if_pos c11, w3, Int.toNat_natCast, Int.toNat_natCast, Int.toNat_natCast, Int.toNat_natCast]
theorem rget_short (s : ByteArray) (hs : s.size ≤ 1000000000) (acc : List Ref) (a n : Nat) (hlt : a + n < s.size) (h10 : (L s)[a + n]? = some 10) (h65 : n < 65) : Ev (fun k => sacristyref09_Get.l1 k s acc (a : Int) ((a + n : Nat) : Int)) ([], false) := by
  have c1 : ((a + n : Nat) : Int) < (s.size : Int) := by omega
  have c2 : (0 : Int) ≤ ((a + n : Nat) : Int) := by omega
  have c3 : ¬ ((a + n : Nat) : Int) = (s.size : Int) := by omega
  have c4 : (n : Int) < 65 := by omega
  have w0 : wrap64 (((a + n : Nat) : Int) - (a : Int)) = (n : Int) := by rw [w64 _ (by omega) (by omega)]; omega
  refine Ev.step (f := fun _ => some ([], false)) (fun k => ?_) (Ev.now _)
  simp only [sacristyref09_Get.l1]
  rw [if_pos c1, if_pos c2, bt_get h10 _ rfl, if_pos (show ((10 : UInt8).toNat : Int) = 10 from rfl), if_neg c3, w0, if_pos c4]
theorem rget_none (s : ByteArray) (acc : List Ref) (a m : Nat) (h : m = s.size) : Ev (fun k => sacristyref09_Get.l1 k s acc (a : Int) (m : Int)) ([], false) := by
  subst h
  refine Ev.step (f := fun _ => some ([], false)) (fun k => ?_) (Ev.now _)
  simp only [sacristyref09_Get.l1]
  rw [if_neg (Int.lt_irrefl _), if_pos trivial]
theorem rget_l0 (s : ByteArray) (hs : s.size ≤ 1000000000) : ∀ (n a : Nat) (acc : List Ref), s.size - a ≤ n → a ≤ s.size → acc.length ≤ a → Ev (fun k => sacristyref09_Get.l0 k s acc (a : Int)) (match parseR n ((L s).drop a) with | some r => endR s (acc ++ r) | none => ([], false)) := by
  have hfin : ∀ (a : Nat) (acc : List Ref), s.size ≤ a → a ≤ s.size → acc.length ≤ a → Ev (fun k => sacristyref09_Get.l0 k s acc (a : Int)) (endR s acc) := by
    intro a acc h1 h2 h3
    refine Ev.step (f := fun k => (sacristyref09_Put.f k acc).bind fun t => if t.2 = true then (if t.1.toList = s.toList then some (acc, true) else some ([], false)) else some ([], false)) (fun k => ?_) (Ev.bind (rput_ev acc (by omega)) ?_)
    · simp only [sacristyref09_Get.l0]
      rw [if_neg (by omega)]
    · refine Ev.congr (f := fun _ => some (endR s acc)) (fun k => ?_) (Ev.now _)
      unfold endR
      by_cases h1 : (putL acc).2 = true
      · rw [if_pos h1]
        by_cases h2 : (putL acc).1 = s
        · rw [if_pos ((toL_inj _ _).2 h2), if_pos ⟨h1, h2⟩]
        · rw [if_neg (fun e => h2 ((toL_inj _ _).1 e)), if_neg (fun e => h2 e.2)]
      · rw [if_neg h1, if_neg (fun e => h1 e.1)]
  intro n
  induction n with
  | zero =>
    intro a acc hn ha hacc
    have : (L s).drop a = [] := List.drop_of_length_le (by rw [L_len]; omega)
    rw [this, parseR, if_pos rfl]
    simp only [List.append_nil]
    exact hfin a acc (by omega) ha hacc
  | succ n ih =>
    intro a acc hn ha hacc
    by_cases h0 : (L s).drop a = []
    · have hle : s.size ≤ a := by
        have := congrArg List.length h0
        rw [List.length_drop, L_len, List.length_nil] at this; omega
      rw [h0, parseR, if_pos rfl]
      simp only [List.append_nil]
      exact hfin a acc hle ha hacc
    · have hlt : a < s.size := by
        rcases Nat.lt_or_ge a s.size with h | h
        · exact h
        · exact absurd (List.drop_of_length_le (by rw [L_len]; exact h)) h0
      obtain ⟨q, hq⟩ : ∃ q, (L s).drop a = q := ⟨_, rfl⟩
      have hql : q.length = s.size - a := by rw [← hq, List.length_drop, L_len]
      rw [hq] at h0 ⊢
      obtain ⟨h1, h2⟩ := cutB_spec 10 q
      have hlen := cutB_len 10 q
      obtain ⟨p, hp⟩ : ∃ p, (cutB 10 q).1 = p := ⟨_, rfl⟩
      obtain ⟨z, hz⟩ : ∃ z, (cutB 10 q).2.1 = z := ⟨_, rfl⟩
      obtain ⟨f, hf⟩ : ∃ f, (cutB 10 q).2.2 = f := ⟨_, rfl⟩
      rw [parseR, if_neg h0, hp, hz, hf]
      rw [hp] at h1 h2 hlen
      rw [hz] at h2 hlen
      rw [hf] at h2
      have hmle : a + p.length ≤ s.size := by have := hlen.1; omega
      have hat : ∀ j, (L s)[a + j]? = q[j]? := fun j => by rw [← hq, List.getElem?_drop]
      have hno : ∀ i u, a ≤ i → i < a + p.length → (L s)[i]? = some u → u ≠ 10 := by
        intro i u hai hip hu
        have e := hat (i - a)
        rw [show a + (i - a) = i by omega, hu] at e
        refine h1 u (List.mem_of_getElem? (i := i - a) ?_)
        rcases h2 with ⟨_, g⟩ | ⟨_, g, _⟩
        · rw [g, List.getElem?_append_left (by omega)] at e; exact e.symm
        · rw [g] at e; exact e.symm
      refine Ev.step (f := fun k => sacristyref09_Get.l1 k s acc (a : Int) (a : Int)) (fun k => ?_) (rget_scan s hs acc a (a + p.length) hmle hno _ ?_ (a + p.length - a) a rfl (by omega) (Nat.le_refl _))
      · simp only [sacristyref09_Get.l0]
        rw [if_pos (by omega)]
      rcases h2 with ⟨rfl, g⟩ | ⟨rfl, g, _⟩
      · have hm10 : (L s)[a + p.length]? = some 10 := by
          rw [hat, g, List.getElem?_append_right (Nat.le_refl _), Nat.sub_self]; rfl
        have hmlt : a + p.length < s.size := by
          have := (List.getElem?_eq_some_iff.1 hm10).1
          rw [L_len] at this; exact this
        have hqp : q.take p.length = p := by rw [g, List.take_left]
        by_cases h65 : 65 ≤ p.length
        · rw [if_pos ⟨rfl, h65⟩]
          have e1 : s.extract a (a + 64) = bs (p.take 64) := by
            apply L_inj
            rw [L_bs, L_ext, hq, Nat.add_sub_cancel_left, ← hqp, List.take_take, Nat.min_eq_left (Nat.le_trans (by decide) h65)]
          have e2 : s.extract (a + 65) (a + p.length) = bs (p.drop 65) := by
            apply L_inj
            rw [L_bs, L_ext, nh0, ← hqp, List.drop_take, ← hq, List.drop_drop, List.length_take]
            rw [List.length_drop, L_len, ← nh4 hmle]
          have hdz : (L s).drop (a + p.length + 1) = z := by
            rw [Nat.add_assoc, ← List.drop_drop, hq, g, ← List.drop_drop, List.drop_left]; rfl
          have ih' := ih (a + p.length + 1) (acc ++ [⟨s.extract (a + 65) (a + p.length), s.extract a (a + 64)⟩]) (nh1 hn) hmlt (by rw [List.length_append]; exact Nat.succ_le_succ (Nat.le_trans hacc (Nat.le_add_right _ _)))
          rw [hdz] at ih'
          refine rget_found s hs acc a p.length hmlt hm10 h65 hacc _ ?_
          cases hr : parseR n z with
          | none => rw [hr] at ih'; exact ih'
          | some r =>
            rw [hr] at ih'
            have e : (acc ++ [(⟨s.extract (a + 65) (a + p.length), s.extract a (a + 64)⟩ : Ref)]) ++ r = acc ++ ⟨bs (p.drop 65), bs (p.take 64)⟩ :: r := by rw [e1, e2]; simp
            simp only [e] at ih'
            exact ih'
        · rw [if_neg (fun h => h65 h.2)]
          exact rget_short s hs acc a p.length hmlt hm10 (Nat.lt_of_not_le h65)
      · rw [if_neg (fun h => by cases h.1)]
        have : a + p.length = s.size := by rw [← g, hql]; exact Nat.add_sub_cancel' ha
        exact rget_none s acc a _ this
theorem parseR_lines : ∀ (l : List Ref) (n : Nat), (∀ x ∈ l, nameB x.f0 = true ∧ nmB x.f1 = true) → (linesL l).length ≤ n → parseR n (linesL l) = some l
  | [], n, _, _ => by
    cases n with
    | zero => exact if_pos rfl
    | succ n => exact if_pos rfl
  | x :: r, n, h, hn => by
    have hx := h x List.mem_cons_self
    have h64 := nm_size hx.2
    have e : linesL (x :: r) = (L x.f1 ++ 32 :: L x.f0) ++ 10 :: linesL r := by
      simp [linesL, lineS, L, ByteArray.data_append]
    have hle : (linesL (x :: r)).length = x.f1.size + 1 + x.f0.size + 1 + (linesL r).length := by rw [e]; simp; omega
    obtain ⟨m, rfl⟩ : ∃ m, n = m + 1 := ⟨n - 1, by omega⟩
    have hc : cutB 10 (linesL (x :: r)) = (L x.f1 ++ 32 :: L x.f0, linesL r, true) := by
      rw [e]
      refine cutB_app 10 _ _ (fun b hb => ?_)
      rcases List.mem_append.1 hb with hb | hb
      · exact (nm_bytes hx.2 b hb).2
      · rcases List.mem_cons.1 hb with rfl | hb
        · decide
        · exact name_bytes hx.1 b hb
    have hll : (L x.f1).length = 64 := by rw [L_len, h64]
    have e1 : (L x.f1 ++ 32 :: L x.f0).take 64 = L x.f1 := by rw [← hll, List.take_left]
    have e2 : (L x.f1 ++ 32 :: L x.f0).drop 65 = L x.f0 := by
      rw [List.drop_append, List.drop_of_length_le (by omega), hll]; rfl
    have ih := parseR_lines r m (fun y hy => h y (List.mem_cons_of_mem _ hy)) (by omega)
    rw [parseR, if_neg (by intro h0; rw [h0] at hle; simp at hle; omega), hc]
    have h65 : 65 ≤ (L x.f1 ++ 32 :: L x.f0).length := by rw [List.length_append, List.length_cons, hll]; exact nh5 _
    simp only [e1, e2, bs_L, ih, Option.map_some, h65, and_self, if_true]
theorem rget_ev (s : ByteArray) (hs : s.size ≤ 1000000000) : Ev (fun k => sacristyref09_Get.f k s) (getL s) := by
  have h := rget_l0 s hs s.size 0 [] (by omega) (Nat.zero_le _) (Nat.zero_le _)
  rw [List.drop_zero] at h
  unfold sacristyref09_Get.f
  have key : (match parseR s.size (L s) with | some r => endR s ([] ++ r) | none => ([], false)) = getL s := by
    by_cases hg : (getL s).2 = true
    · have hp : (putL (readL s)).2 = true ∧ (putL (readL s)).1 = s := by
        unfold getL at hg
        by_cases hp : (putL (readL s)).2 = true ∧ (putL (readL s)).1 = s
        · exact hp
        · rw [if_neg hp] at hg; cases hg
      obtain ⟨l, hl⟩ : ∃ l, readL s = l := ⟨_, rfl⟩
      have hgl : getL s = (l, true) := by unfold getL; rw [if_pos hp, hl]
      rw [hl] at hp
      have hr : rightB l = true := by rw [← putL_snd']; exact hp.1
      rw [put_right hr] at hp
      have hs2 : s = textL l := hp.2.symm
      have hLs : L s = linesL l := by rw [hs2, L_text]
      rw [hLs, parseR_lines l _ (fun x hx => rightB_mem hr hx) (by rw [← hLs, L_len]; exact Nat.le_refl _), hgl]
      show endR s ([] ++ l) = (l, true)
      unfold endR
      rw [List.nil_append, put_right hr, if_pos ⟨rfl, hs2.symm⟩]
    · have hno : ∀ l, ¬ ((putL l).2 = true ∧ (putL l).1 = s) := by
        rintro l ⟨h1, h2⟩
        have hr : rightB l = true := by rw [← putL_snd']; exact h1
        rw [put_right hr] at h2
        have h2 : textL l = s := h2
        rw [← h2, get_text hr] at hg
        exact hg rfl
      have hge : getL s = ([], false) := by unfold getL; rw [if_neg (hno _)]
      rw [hge]
      cases parseR s.size (L s) with
      | none => rfl
      | some r => show endR s ([] ++ r) = _; unfold endR; rw [if_neg (hno _)]
  rw [key] at h
  exact h
end Go.Proofs.YtacgchklilfcaaaDoor.Rf
