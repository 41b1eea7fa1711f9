/- Joined texts: RfIdx, RfPlain1, RfFind, RfNamed. No condition but what stands in each. -/
import Derived.Test.YtacgchklilfcaaaGreatDoorZPRfBasex0
import Derived.Test.YtacgchklilfcaaaGreatDoorZPRfBasex1
import Derived.Test.YtacgchklilfcaaaGreatDoorZPRfBasex2
import Derived.Test.YtacgchklilfcaaaGreatDoorZPRfBasex3
import Derived.Test.YtacgchklilfcaaaGreatDoorZPRfBasex4
import Derived.Test.YtacgchklilfcaaaGreatDoorZPRfBasex5
import Derived.Test.YtacgchklilfcaaaGreatDoorZPRfBasex6
import Derived.Test.YtacgchklilfcaaaGreatDoorZPRfBasex7
import Derived.Test.YtacgchklilfcaaaGreatDoorZPRfBasex9
import Derived.Test.YtacgchklilfcaaaGreatDoorZPRfBasex10
import Derived.BigRegion
import Derived.Shelf.Abstract
import Derived.Test.YtacgchklilfcaaaGreatDoorZRfS1
namespace Go.Proofs.YtacgchklilfcaaaGreatDoor.Rf
set_option linter.unusedVariables false
set_option linter.unusedSimpArgs false
open Go.RowKit Go.Proofs.YtacgchklilfcaaaGreatDoorW.PrintWords Go.Proofs.YtacgchklilfcaaaGreatDoorW.PrintLast Go.Proofs.YtacgchklilfcaaaGreatDoorW.PrintMore PRfBase
structure As (p : Prop) : Prop where
  out : p
abbrev Ref := S46
abbrev Upd := S40
def fst {α : Type} (p : α → Bool) (l : List α) : Int := match l.findIdx? p with | some i => (i : Int) | none => -1
def fstI {α : Type} (p : Nat → α → Bool) (l : List α) : Int := fst (fun x : α × Nat => p x.2 x.1) l.zipIdx
theorem fst_some {α : Type} {p : α → Bool} {l : List α} {i : Nat} {x : α} (hx : l[i]? = some x) (hp : p x = true) (hno : ∀ j y, j < i → l[j]? = some y → p y = false) : fst p l = (i : Int) := by
  have : l.findIdx? p = some i := by
    rw [List.findIdx?_eq_some_iff_getElem]
    obtain ⟨h1, h2⟩ := List.getElem?_eq_some_iff.1 hx
    refine ⟨h1, by rw [h2]; exact hp, fun j hj => ?_⟩
    have := hno j _ hj (List.getElem?_eq_getElem (by omega))
    simpa using this
  rw [fst, this]
theorem fst_none {α : Type} {p : α → Bool} {l : List α} (hno : ∀ (j : Nat) (y : α), l[j]? = some y → p y = false) : fst p l = -1 := by
  have : l.findIdx? p = none := by
    rw [List.findIdx?_eq_none_iff]
    intro x hx
    obtain ⟨j, hj⟩ := List.getElem?_of_mem hx
    exact hno j x hj
  rw [fst, this]
theorem fst_nonneg {α : Type} (p : α → Bool) (l : List α) : (0 ≤ fst p l) ↔ l.any p = true := by
  rw [List.any_eq_true, fst]
  cases h : l.findIdx? p with
  | none =>
    rw [List.findIdx?_eq_none_iff] at h
    exact ⟨fun k => by simp at k, fun ⟨x, hx, hp⟩ => by rw [h x hx] at hp; cases hp⟩
  | some i =>
    obtain ⟨h1, h2, _⟩ := List.findIdx?_eq_some_iff_getElem.1 h
    exact ⟨fun _ => ⟨_, List.getElem_mem h1, h2⟩, fun _ => Int.natCast_nonneg i⟩
theorem fstI_some {α : Type} {p : Nat → α → Bool} {l : List α} {i : Nat} {x : α} (hx : l[i]? = some x) (hp : p i x = true) (hno : ∀ j y, j < i → l[j]? = some y → p j y = false) : fstI p l = (i : Int) := by
  refine fst_some (x := (x, i)) (by simp [List.getElem?_zipIdx, hx]) hp (fun j y hj hy => ?_)
  rw [List.getElem?_zipIdx] at hy
  cases h : l[j]? with
  | none => rw [h] at hy; cases hy
  | some z => rw [h] at hy; simp at hy; subst hy; exact hno j z hj h
theorem fstI_none {α : Type} {p : Nat → α → Bool} {l : List α} (hno : ∀ (j : Nat) (y : α), l[j]? = some y → p j y = false) : fstI p l = -1 := by
  refine fst_none (fun j y hy => ?_)
  rw [List.getElem?_zipIdx] at hy
  cases h : l[j]? with
  | none => rw [h] at hy; cases hy
  | some z => rw [h] at hy; simp at hy; subst hy; exact hno j z h
theorem zipIdx_findIdx {α : Type} (p : α → Bool) (l : List α) (k : Nat) : (l.zipIdx k).findIdx? (fun x => p x.1) = l.findIdx? p := by
  induction l generalizing k with
  | nil => rfl
  | cons x r ih => rw [List.zipIdx_cons, List.findIdx?_cons, List.findIdx?_cons, ih]
theorem fstI_const {α : Type} (p : α → Bool) (l : List α) : fstI (fun _ => p) l = fst p l := by
  unfold fstI fst
  rw [zipIdx_findIdx]
def rd_str (l : List ByteArray) (i : Int) : ByteArray := rdOf ByteArray.empty l i
theorem at_str {w : World} {A : Option Addr} {n : Nat} {l : List ByteArray} (h : Kd.C Kd.string w A n l) (i : Int) (h0 : 0 ≤ i) (h1 : i < n) : ∃ ad, A = some ad ∧ w.cell? (ad.add i.toNat) = some (.string (rd_str l i)) := (Kd.reads_of_C (d := ByteArray.empty) h).at_ i h0 h1
theorem rd_str_at {l : List ByteArray} {i : Nat} (hil : i < l.length) {x : ByteArray} (hx : rd_str l (i : Int) = x) : l[i]? = some x := by rw [← hx]; simp [rd_str, rdOf, hil]
theorem rd_Ref_at {l : List Ref} {i : Nat} (hil : i < l.length) {x : Ref} (hx : rd_T46 l (i : Int) = x) : l[i]? = some x := by rw [← hx]; simp [rd_T46, hil]
theorem rd_Upd_at {l : List Upd} {i : Nat} (hil : i < l.length) {x : Upd} (hx : rd_T40 l (i : Int) = x) : l[i]? = some x := by rw [← hx]; simp [rd_T40, hil]
set_option maxHeartbeats 4000000 in
set_option maxRecDepth 100000 in
theorem idxRef1 (A : Option Addr) (c n : Nat) (l : List Ref) (g : FuncId) (cp : Value) (p : Nat → Ref → Bool) (I : Nat → World → Prop) (w : World) (hC : Kd.C k46 w A n l) (hn : l.length = n) (hc : n ≤ c) (hg : ∀ (args : Array Value) (w : World), (callFunc g args).run Tryz.prog w = .ok (.enter g args) w)
    (h0 : I 0 w) (hI : ∀ i W, I i W → Kd.C k46 W A n l)
    (hcl : ∀ (i : Nat) (W : World) (x : Ref), I i W → l[i]? = some x → Calls Tryz.prog g #[.agg #[.string x.f0, .string x.f1], cp] W fun e w' => e = .returned (.bool (p i x)) ∧ I (i + 1) w') :
    Calls Tryz.prog 41 #[.slice A n c, .func (.func g) #[] #[cp]] w fun e w' => e = .returned (.int .i64 (fstI p l)) ∧ ∃ j, I j w' := by
  have HC := As.mk hC
  have HN := As.mk hn
  have HCL := As.mk hcl
  have HI := As.mk hI
  have HI0 := As.mk h0
  have hmax := Kd.C_max hC
  clear hC hn hcl hI h0
  go_enter Tryz.func41, Tryz.ntmps41
  go_wp2_with (fail)
  go_loopw [8] (fun v8 wr => ∃ i : Nat, v8 = .int .i64 i ∧ i ≤ n ∧ As (∀ j x, j < i → l[j]? = some x → p j x = false) ∧ As (I i wr)) (fun v8 _ => n - (intOf v8).toNat)
  case atStart => exact ⟨0, rfl, by omega, ⟨fun j x h => by omega⟩, HI0⟩
  case round =>
    obtain ⟨i, rfl, hi, HNO, HB⟩ := hrel
    by_cases hlt : i < n
    · have hil : i < l.length := by rw [HN.out]; exact hlt
      obtain ⟨ad, rfl, h0, h1⟩ := at_T46 (HI.out _ _ HB.out) (i : Int) (by omega) (by omega)
      rw [Int.toNat_natCast] at h0 h1
      obtain ⟨x, hx⟩ : ∃ x, rd_T46 l (i : Int) = x := ⟨_, rfl⟩
      have hxi : l[i]? = some x := rd_Ref_at hil hx
      rw [hx] at h0 h1
      have HX := As.mk hxi
      clear hx hxi hil
      go_wp2_with (fail)
      refine (HCL.out i wr x HB.out HX.out).mono ?_
      rintro e w1 ⟨rfl, hb⟩
      have HB1 := As.mk hb
      clear hb
      rcases hp : p i x with _ | _
      · have HN2 : As (∀ j x, j < i + 1 → l[j]? = some x → p j x = false) := ⟨fun j y hj hy => by
          by_cases hji : j = i
          · subst hji
            rw [HX.out] at hy
            rw [← Option.some.inj hy]; exact hp
          · exact HNO.out j y (by omega) hy⟩
        go_wp2_with (fail)
        exact ⟨⟨i + 1, by go_num, by omega, HN2, HB1⟩, by simp [intOf]; omega⟩
      · have HF : As (fstI p l = (i : Int)) := ⟨fstI_some HX.out hp HNO.out⟩
        go_wp2_with (fail)
        go_ret
        exact ⟨by rw [HF.out]; rfl, _, HB1.out⟩
    · have hin : i = n := by omega
      subst hin
      have HF : As (fstI p l = -1) := ⟨fstI_none (fun j y hj => HNO.out j y (by rw [← HN.out]; exact (List.getElem?_eq_some_iff.1 hj).1) hj)⟩
      go_wp2_with (fail)
      go_ret
      exact ⟨by rw [HF.out]; rfl, _, HB.out⟩
theorem firstRef1 (A : Option Addr) (c n : Nat) (l : List Ref) (g : FuncId) (cp : Value) (p : Ref → Bool) (w : World) (hC : Kd.C k46 w A n l) (hn : l.length = n) (hc : n ≤ c) (hg : ∀ (args : Array Value) (w : World), (callFunc g args).run Tryz.prog w = .ok (.enter g args) w)
    (hcl : ∀ (W : World) (x : Ref), Below w.heap.size w W → x ∈ l → Calls Tryz.prog g #[.agg #[.string x.f0, .string x.f1], cp] W fun e w' => e = .returned (.bool (p x)) ∧ Below W.heap.size W w') :
    Calls Tryz.prog 41 #[.slice A n c, .func (.func g) #[] #[cp]] w fun e w' => e = .returned (.int .i64 (fst p l)) ∧ Below w.heap.size w w' := by
  refine (idxRef1 A c n l g cp (fun _ => p) (fun _ W => Below w.heap.size w W) w hC hn hc hg (Below.refl _ _) (fun _ _ h => Kd.C_below hC h) (fun i W x hb hx => ?_)).mono ?_
  · refine (hcl W x hb (List.mem_of_getElem? hx)).mono ?_
    rintro e w1 ⟨rfl, h⟩
    exact ⟨rfl, hb.trans (h.mono hb.size)⟩
  · rintro e w1 ⟨rfl, _, h⟩
    exact ⟨by rw [fstI_const], h⟩
set_option maxHeartbeats 4000000 in
set_option maxRecDepth 100000 in
theorem idxUpd1 (A : Option Addr) (c n : Nat) (l : List Upd) (g : FuncId) (cp : Value) (p : Nat → Upd → Bool) (I : Nat → World → Prop) (w : World) (hC : Kd.C k40 w A n l) (hn : l.length = n) (hc : n ≤ c) (hg : ∀ (args : Array Value) (w : World), (callFunc g args).run Tryz.prog w = .ok (.enter g args) w)
    (h0 : I 0 w) (hI : ∀ i W, I i W → Kd.C k40 W A n l)
    (hcl : ∀ (i : Nat) (W : World) (x : Upd), I i W → l[i]? = some x → Calls Tryz.prog g #[.agg #[.string x.f0, .string x.f1, .string x.f2], cp] W fun e w' => e = .returned (.bool (p i x)) ∧ I (i + 1) w') :
    Calls Tryz.prog 29 #[.slice A n c, .func (.func g) #[] #[cp]] w fun e w' => e = .returned (.int .i64 (fstI p l)) ∧ ∃ j, I j w' := by
  have HC := As.mk hC
  have HN := As.mk hn
  have HCL := As.mk hcl
  have HI := As.mk hI
  have HI0 := As.mk h0
  have hmax := Kd.C_max hC
  clear hC hn hcl hI h0
  go_enter Tryz.func29, Tryz.ntmps29
  go_wp2_with (fail)
  go_loopw [8] (fun v8 wr => ∃ i : Nat, v8 = .int .i64 i ∧ i ≤ n ∧ As (∀ j x, j < i → l[j]? = some x → p j x = false) ∧ As (I i wr)) (fun v8 _ => n - (intOf v8).toNat)
  case atStart => exact ⟨0, rfl, by omega, ⟨fun j x h => by omega⟩, HI0⟩
  case round =>
    obtain ⟨i, rfl, hi, HNO, HB⟩ := hrel
    by_cases hlt : i < n
    · have hil : i < l.length := by rw [HN.out]; exact hlt
      obtain ⟨ad, rfl, h0, h1, h2⟩ := at_T40 (HI.out _ _ HB.out) (i : Int) (by omega) (by omega)
      rw [Int.toNat_natCast] at h0 h1 h2
      obtain ⟨x, hx⟩ : ∃ x, rd_T40 l (i : Int) = x := ⟨_, rfl⟩
      have hxi : l[i]? = some x := rd_Upd_at hil hx
      rw [hx] at h0 h1 h2
      have HX := As.mk hxi
      clear hx hxi hil
      go_wp2_with (fail)
      refine (HCL.out i wr x HB.out HX.out).mono ?_
      rintro e w1 ⟨rfl, hb⟩
      have HB1 := As.mk hb
      clear hb
      rcases hp : p i x with _ | _
      · have HN2 : As (∀ j x, j < i + 1 → l[j]? = some x → p j x = false) := ⟨fun j y hj hy => by
          by_cases hji : j = i
          · subst hji
            rw [HX.out] at hy
            rw [← Option.some.inj hy]; exact hp
          · exact HNO.out j y (by omega) hy⟩
        go_wp2_with (fail)
        exact ⟨⟨i + 1, by go_num, by omega, HN2, HB1⟩, by simp [intOf]; omega⟩
      · have HF : As (fstI p l = (i : Int)) := ⟨fstI_some HX.out hp HNO.out⟩
        go_wp2_with (fail)
        go_ret
        exact ⟨by rw [HF.out]; rfl, _, HB1.out⟩
    · have hin : i = n := by omega
      subst hin
      have HF : As (fstI p l = -1) := ⟨fstI_none (fun j y hj => HNO.out j y (by rw [← HN.out]; exact (List.getElem?_eq_some_iff.1 hj).1) hj)⟩
      go_wp2_with (fail)
      go_ret
      exact ⟨by rw [HF.out]; rfl, _, HB.out⟩
theorem firstUpd1 (A : Option Addr) (c n : Nat) (l : List Upd) (g : FuncId) (cp : Value) (p : Upd → Bool) (w : World) (hC : Kd.C k40 w A n l) (hn : l.length = n) (hc : n ≤ c) (hg : ∀ (args : Array Value) (w : World), (callFunc g args).run Tryz.prog w = .ok (.enter g args) w)
    (hcl : ∀ (W : World) (x : Upd), Below w.heap.size w W → x ∈ l → Calls Tryz.prog g #[.agg #[.string x.f0, .string x.f1, .string x.f2], cp] W fun e w' => e = .returned (.bool (p x)) ∧ Below W.heap.size W w') :
    Calls Tryz.prog 29 #[.slice A n c, .func (.func g) #[] #[cp]] w fun e w' => e = .returned (.int .i64 (fst p l)) ∧ Below w.heap.size w w' := by
  refine (idxUpd1 A c n l g cp (fun _ => p) (fun _ W => Below w.heap.size w W) w hC hn hc hg (Below.refl _ _) (fun _ _ h => Kd.C_below hC h) (fun i W x hb hx => ?_)).mono ?_
  · refine (hcl W x hb (List.mem_of_getElem? hx)).mono ?_
    rintro e w1 ⟨rfl, h⟩
    exact ⟨rfl, hb.trans (h.mono hb.size)⟩
  · rintro e w1 ⟨rfl, _, h⟩
    exact ⟨by rw [fstI_const], h⟩
set_option maxHeartbeats 4000000 in
set_option maxRecDepth 100000 in
theorem idxStr0 (A : Option Addr) (c n : Nat) (l : List ByteArray) (g : FuncId) (cp : Value) (p : Nat → ByteArray → Bool) (I : Nat → World → Prop) (w : World) (hC : Kd.C Kd.string w A n l) (hn : l.length = n) (hc : n ≤ c) (hg : ∀ (args : Array Value) (w : World), (callFunc g args).run Tryz.prog w = .ok (.enter g args) w)
    (h0 : I 0 w) (hI : ∀ i W, I i W → Kd.C Kd.string W A n l)
    (hcl : ∀ (i : Nat) (W : World) (x : ByteArray), I i W → l[i]? = some x → Calls Tryz.prog g #[.string x] W fun e w' => e = .returned (.bool (p i x)) ∧ I (i + 1) w') :
    Calls Tryz.prog 56 #[.slice A n c, .func (.func g) #[] #[]] w fun e w' => e = .returned (.int .i64 (fstI p l)) ∧ ∃ j, I j w' := by
  have HC := As.mk hC
  have HN := As.mk hn
  have HCL := As.mk hcl
  have HI := As.mk hI
  have HI0 := As.mk h0
  have hmax := Kd.C_max hC
  clear hC hn hcl hI h0
  go_enter Tryz.func56, Tryz.ntmps56
  go_wp2_with (fail)
  go_loopw [8] (fun v8 wr => ∃ i : Nat, v8 = .int .i64 i ∧ i ≤ n ∧ As (∀ j x, j < i → l[j]? = some x → p j x = false) ∧ As (I i wr)) (fun v8 _ => n - (intOf v8).toNat)
  case atStart => exact ⟨0, rfl, by omega, ⟨fun j x h => by omega⟩, HI0⟩
  case round =>
    obtain ⟨i, rfl, hi, HNO, HB⟩ := hrel
    by_cases hlt : i < n
    · have hil : i < l.length := by rw [HN.out]; exact hlt
      obtain ⟨ad, rfl, h0⟩ := at_str (HI.out _ _ HB.out) (i : Int) (by omega) (by omega)
      rw [Int.toNat_natCast] at h0
      obtain ⟨x, hx⟩ : ∃ x, rd_str l (i : Int) = x := ⟨_, rfl⟩
      have hxi : l[i]? = some x := rd_str_at hil hx
      rw [hx] at h0
      have HX := As.mk hxi
      clear hx hxi hil
      go_wp2_with (fail)
      refine (HCL.out i wr x HB.out HX.out).mono ?_
      rintro e w1 ⟨rfl, hb⟩
      have HB1 := As.mk hb
      clear hb
      rcases hp : p i x with _ | _
      · have HN2 : As (∀ j x, j < i + 1 → l[j]? = some x → p j x = false) := ⟨fun j y hj hy => by
          by_cases hji : j = i
          · subst hji
            rw [HX.out] at hy
            rw [← Option.some.inj hy]; exact hp
          · exact HNO.out j y (by omega) hy⟩
        go_wp2_with (fail)
        exact ⟨⟨i + 1, by go_num, by omega, HN2, HB1⟩, by simp [intOf]; omega⟩
      · have HF : As (fstI p l = (i : Int)) := ⟨fstI_some HX.out hp HNO.out⟩
        go_wp2_with (fail)
        go_ret
        exact ⟨by rw [HF.out]; rfl, _, HB1.out⟩
    · have hin : i = n := by omega
      subst hin
      have HF : As (fstI p l = -1) := ⟨fstI_none (fun j y hj => HNO.out j y (by rw [← HN.out]; exact (List.getElem?_eq_some_iff.1 hj).1) hj)⟩
      go_wp2_with (fail)
      go_ret
      exact ⟨by rw [HF.out]; rfl, _, HB.out⟩
theorem firstStr0 (A : Option Addr) (c n : Nat) (l : List ByteArray) (g : FuncId) (cp : Value) (p : ByteArray → Bool) (w : World) (hC : Kd.C Kd.string w A n l) (hn : l.length = n) (hc : n ≤ c) (hg : ∀ (args : Array Value) (w : World), (callFunc g args).run Tryz.prog w = .ok (.enter g args) w)
    (hcl : ∀ (W : World) (x : ByteArray), Below w.heap.size w W → x ∈ l → Calls Tryz.prog g #[.string x] W fun e w' => e = .returned (.bool (p x)) ∧ Below W.heap.size W w') :
    Calls Tryz.prog 56 #[.slice A n c, .func (.func g) #[] #[]] w fun e w' => e = .returned (.int .i64 (fst p l)) ∧ Below w.heap.size w w' := by
  refine (idxStr0 A c n l g cp (fun _ => p) (fun _ W => Below w.heap.size w W) w hC hn hc hg (Below.refl _ _) (fun _ _ h => Kd.C_below hC h) (fun i W x hb hx => ?_)).mono ?_
  · refine (hcl W x hb (List.mem_of_getElem? hx)).mono ?_
    rintro e w1 ⟨rfl, h⟩
    exact ⟨rfl, hb.trans (h.mono hb.size)⟩
  · rintro e w1 ⟨rfl, _, h⟩
    exact ⟨by rw [fstI_const], h⟩
set_option maxHeartbeats 4000000 in
set_option maxRecDepth 100000 in
theorem hasRef1 (A : Option Addr) (c n : Nat) (l : List Ref) (g : FuncId) (cp : Value) (p : Ref → Bool) (w : World) (hC : Kd.C k46 w A n l) (hn : l.length = n) (hc : n ≤ c) (hg : ∀ (args : Array Value) (w : World), (callFunc g args).run Tryz.prog w = .ok (.enter g args) w)
    (hcl : ∀ (W : World) (x : Ref), Below w.heap.size w W → x ∈ l → Calls Tryz.prog g #[.agg #[.string x.f0, .string x.f1], cp] W fun e w' => e = .returned (.bool (p x)) ∧ Below W.heap.size W w') :
    Calls Tryz.prog 26 #[.slice A n c, .func (.func g) #[] #[cp]] w fun e w' => e = .returned (.bool (l.any p)) ∧ Below w.heap.size w w' := by
  have H := As.mk (firstRef1 A c n l g cp p w hC hn hc hg hcl)
  clear hC hn hcl hg
  go_enter Tryz.func26, Tryz.ntmps26
  go_wp2_with (fail)
  refine H.out.mono ?_
  rintro e w1 ⟨rfl, hb⟩
  have HB := As.mk hb
  clear hb
  have HF := As.mk (fst_nonneg p l)
  by_cases h : 0 ≤ fst p l
  · have HT := As.mk (HF.out.1 h)
    go_wp2_with (fail)
    go_ret
    exact ⟨by rw [HT.out]; simp [h], HB.out⟩
  · have HT : As (l.any p = false) := ⟨by
      rw [← Bool.not_eq_true]
      exact fun k => h (HF.out.2 k)⟩
    go_wp2_with (fail)
    go_ret
    exact ⟨by rw [HT.out]; simp [h], HB.out⟩
set_option maxHeartbeats 4000000 in
set_option maxRecDepth 100000 in
theorem hasStr0 (A : Option Addr) (c n : Nat) (l : List ByteArray) (g : FuncId) (cp : Value) (p : ByteArray → Bool) (w : World) (hC : Kd.C Kd.string w A n l) (hn : l.length = n) (hc : n ≤ c) (hg : ∀ (args : Array Value) (w : World), (callFunc g args).run Tryz.prog w = .ok (.enter g args) w)
    (hcl : ∀ (W : World) (x : ByteArray), Below w.heap.size w W → x ∈ l → Calls Tryz.prog g #[.string x] W fun e w' => e = .returned (.bool (p x)) ∧ Below W.heap.size W w') :
    Calls Tryz.prog 34 #[.slice A n c, .func (.func g) #[] #[]] w fun e w' => e = .returned (.bool (l.any p)) ∧ Below w.heap.size w w' := by
  have H := As.mk (firstStr0 A c n l g cp p w hC hn hc hg hcl)
  clear hC hn hcl hg
  go_enter Tryz.func34, Tryz.ntmps34
  go_wp2_with (fail)
  refine H.out.mono ?_
  rintro e w1 ⟨rfl, hb⟩
  have HB := As.mk hb
  clear hb
  have HF := As.mk (fst_nonneg p l)
  by_cases h : 0 ≤ fst p l
  · have HT := As.mk (HF.out.1 h)
    go_wp2_with (fail)
    go_ret
    exact ⟨by rw [HT.out]; simp [h], HB.out⟩
  · have HT : As (l.any p = false) := ⟨by
      rw [← Bool.not_eq_true]
      exact fun k => h (HF.out.2 k)⟩
    go_wp2_with (fail)
    go_ret
    exact ⟨by rw [HT.out]; simp [h], HB.out⟩
end Go.Proofs.YtacgchklilfcaaaGreatDoor.Rf
namespace Go.Proofs.YtacgchklilfcaaaGreatDoor.Rf
set_option linter.unusedVariables false
set_option linter.unusedSimpArgs false
open Go.RowKit Go.Proofs.YtacgchklilfcaaaGreatDoorW.PrintWords Go.Proofs.YtacgchklilfcaaaGreatDoorW.PrintLast Go.Proofs.YtacgchklilfcaaaGreatDoorW.PrintMore PRfBase
abbrev L (s : ByteArray) : List UInt8 := s.data.toList
theorem L_len (s : ByteArray) : (L s).length = s.size := by simp [L]
theorem L_inj {s t : ByteArray} (h : L s = L t) : s = t := by
  apply ByteArray.ext
  exact Array.ext' h
theorem toL (s : ByteArray) : s.toList = L s := by rw [ByteArray.toList_eq]
theorem toL_inj (s t : ByteArray) : s.toList = t.toList ↔ s = t := by
  rw [toL, toL]
  exact ⟨L_inj, fun h => by rw [h]⟩
theorem toL_nil (s : ByteArray) : s.toList = ([] : List UInt8) ↔ s.size = 0 := by
  rw [toL, ← L_len]; exact List.length_eq_zero_iff.symm
theorem bt_get {s : ByteArray} {i : Nat} {u : UInt8} (h : (L s)[i]? = some u) (j : Int) (hj : j = i) : bt s j = (u.toNat : Int) := by
  subst hj
  obtain ⟨hl, he⟩ := List.getElem?_eq_some_iff.1 h
  rw [L_len] at hl
  rw [bt, Int.toNat_natCast, dif_pos hl, ← he]
  rfl
theorem w64 (x : Int) (h0 : 0 ≤ x) (h1 : x ≤ 9223372036854775807) : wrap64 x = x := by unfold wrap64; omega
def letOk (u : UInt8) : Bool := u == 46 || u == 45 || u == 95 || (decide (97 ≤ u.toNat) && decide (u.toNat ≤ 122)) || (decide (48 ≤ u.toNat) && decide (u.toNat ≤ 57))
def letB (s : ByteArray) : Bool := (L s).all letOk && (decide (1 ≤ s.size) && decide (s.size ≤ 30) && (L s).head? != some 46)
def endB (s : ByteArray) : Bool := decide (1 ≤ s.size) && decide (s.size ≤ 30) && (L s).head? != some 46
theorem end_head {s : ByteArray} (h : 1 ≤ s.size) : (bt s 0 != 46) = ((L s).head? != some 46) := by
  obtain ⟨u, hu⟩ : ∃ u, (L s)[0]? = some u := ⟨_, List.getElem?_eq_getElem (by rw [L_len]; omega)⟩
  rw [bt_get hu 0 rfl, List.head?_eq_getElem?, hu, Bool.eq_iff_iff, bne_iff_ne, bne_iff_ne]
  refine not_congr ⟨fun h => ?_, fun h => ?_⟩
  · congr 1
    apply UInt8.toNat_inj.1
    show u.toNat = 46
    omega
  · rw [Option.some.inj h]; rfl
theorem letOk_iff (u : UInt8) : letOk u = true ↔ (u.toNat = 46 ∨ u.toNat = 45 ∨ u.toNat = 95 ∨ (97 ≤ u.toNat ∧ u.toNat ≤ 122) ∨ (48 ≤ u.toNat ∧ u.toNat ≤ 57)) := by
  have e : ∀ v : UInt8, (u == v) = true ↔ u.toNat = v.toNat := fun v => by rw [beq_iff_eq, UInt8.toNat_inj]
  simp only [letOk, Bool.or_eq_true, Bool.and_eq_true, decide_eq_true_iff, e]
  show (((u.toNat = 46 ∨ u.toNat = 45) ∨ u.toNat = 95) ∨ _) ∨ _ ↔ _
  omega
theorem letters_l0 (s : ByteArray) (hs : s.size ≤ 1000000000000) : ∀ (d i : Nat), s.size - i = d → i ≤ s.size → Ev (fun k => refs_letters.l0 k s (s.size : Int) (i : Int)) (((L s).drop i).all letOk && endB s) := by
  intro d
  induction d with
  | zero =>
    intro i hd hi
    have hin : i = s.size := by omega
    subst hin
    rw [List.drop_of_length_le (by rw [L_len]; exact Nat.le_refl _), List.all_nil, Bool.true_and]
    refine Ev.step (f := fun _ => some (endB s)) (fun k => ?_) (Ev.now _)
    simp only [refs_letters.l0]
    rw [if_neg (by omega)]
    by_cases h0 : s.size = 0
    · rw [if_pos ((toL_nil s).2 h0)]
      unfold endB
      rw [decide_eq_false (by omega)]; rfl
    · rw [if_neg (fun h => h0 ((toL_nil s).1 h))]
      unfold endB
      rw [decide_eq_true (by omega)]
      by_cases h30 : s.size ≤ 30
      · rw [if_pos (by omega), if_pos (by omega), decide_eq_true h30, end_head (by omega)]; rfl
      · rw [if_neg (by omega), decide_eq_false h30]; rfl
  | succ d ih =>
    intro i hd hi
    have hil : i < (L s).length := by rw [L_len]; omega
    obtain ⟨u, hu⟩ : ∃ u, (L s)[i]? = some u := ⟨_, List.getElem?_eq_getElem hil⟩
    have hb := bt_get hu (i : Int) rfl
    have hd1 : (L s).drop i = u :: (L s).drop (i + 1) := by
      rw [List.drop_eq_getElem_cons hil, (List.getElem?_eq_some_iff.1 hu).2]
    have ih' := ih (i + 1) (by omega) (by omega)
    have hw : wrap64 ((i : Int) + 1) = ((i + 1 : Nat) : Int) := by rw [w64 _ (by omega) (by omega)]; omega
    rw [hd1, List.all_cons]
    have hlk := letOk_iff u
    have hyes : letOk u = true → Ev (fun k => refs_letters.l0 k s (s.size : Int) (i : Int)) (letOk u && ((L s).drop (i + 1)).all letOk && endB s) := by
      intro h
      rw [h, Bool.true_and]
      have h' := hlk.1 h
      refine Ev.step (fun k => ?_) ih'
      simp only [refs_letters.l0]
      rw [if_pos (by omega), if_pos (by omega), if_pos (by omega), hb, hw]
      by_cases h1 : (u.toNat : Int) = 46
      · rw [if_pos h1]
      · rw [if_neg h1]
        by_cases h2 : (u.toNat : Int) = 45
        · rw [if_pos h2]
        · rw [if_neg h2]
          by_cases h3 : (u.toNat : Int) = 95
          · rw [if_pos h3]
          · rw [if_neg h3]
            by_cases h4 : (u.toNat : Int) < 97
            · rw [if_pos h4, if_neg (by omega), if_neg (by omega)]
            · rw [if_neg h4]
              by_cases h5 : (u.toNat : Int) > 122
              · omega
              · rw [if_neg h5]
    by_cases h : letOk u = true
    · exact hyes h
    · have h' := mt hlk.2 h
      rw [Bool.not_eq_true] at h
      rw [h, Bool.false_and, Bool.false_and]
      refine Ev.step (f := fun _ => some false) (fun k => ?_) (Ev.now _)
      simp only [refs_letters.l0]
      rw [if_pos (by omega), if_pos (by omega), if_pos (by omega), hb, if_neg (by omega), if_neg (by omega), if_neg (by omega)]
      by_cases h4 : (u.toNat : Int) < 97
      · rw [if_pos h4]
        by_cases h6 : (u.toNat : Int) < 48
        · rw [if_pos h6]
        · rw [if_neg h6, if_pos (by omega)]
      · rw [if_neg h4]
        by_cases h5 : (u.toNat : Int) > 122
        · rw [if_pos h5]
          by_cases h6 : (u.toNat : Int) < 48
          · rw [if_pos h6]
          · rw [if_neg h6, if_pos (by omega)]
        · omega
theorem letters_ev (s : ByteArray) (hs : s.size ≤ 1000000000000) : Ev (fun k => refs_letters.f k s) (letB s) := by
  have := letters_l0 s hs s.size 0 (by omega) (by omega)
  rw [List.drop_zero] at this
  exact this
def hexOk (u : UInt8) : Bool := (decide (48 ≤ u.toNat) && decide (u.toNat ≤ 57)) || (decide (97 ≤ u.toNat) && decide (u.toNat ≤ 102))
def nmB (s : ByteArray) : Bool := (L s).all hexOk && decide (s.size = 64)
theorem hexOk_iff (u : UInt8) : hexOk u = true ↔ ((48 ≤ u.toNat ∧ u.toNat ≤ 57) ∨ (97 ≤ u.toNat ∧ u.toNat ≤ 102)) := by
  simp only [hexOk, Bool.or_eq_true, Bool.and_eq_true, decide_eq_true_iff]
theorem dnamed_l0 (s : ByteArray) (hs : s.size ≤ 1000000000000) : ∀ (d i : Nat), s.size - i = d → i ≤ s.size → Ev (fun k => digest_Named.l0 k s (s.size : Int) (i : Int)) (((L s).drop i).all hexOk && decide (s.size = 64)) := by
  intro d
  induction d with
  | zero =>
    intro i hd hi
    have hin : i = s.size := by omega
    subst hin
    rw [List.drop_of_length_le (by rw [L_len]; exact Nat.le_refl _), List.all_nil, Bool.true_and]
    refine Ev.step (f := fun _ => some (decide (s.size = 64))) (fun k => ?_) (Ev.now _)
    simp only [digest_Named.l0]
    rw [if_neg (by omega)]
    congr 1
    rw [Bool.eq_iff_iff, beq_iff_eq, decide_eq_true_iff]; omega
  | succ d ih =>
    intro i hd hi
    have hil : i < (L s).length := by rw [L_len]; omega
    obtain ⟨u, hu⟩ : ∃ u, (L s)[i]? = some u := ⟨_, List.getElem?_eq_getElem hil⟩
    have hb := bt_get hu (i : Int) rfl
    have hd1 : (L s).drop i = u :: (L s).drop (i + 1) := by
      rw [List.drop_eq_getElem_cons hil, (List.getElem?_eq_some_iff.1 hu).2]
    have ih' := ih (i + 1) (by omega) (by omega)
    have hw : wrap64 ((i : Int) + 1) = ((i + 1 : Nat) : Int) := by rw [w64 _ (by omega) (by omega)]; omega
    rw [hd1, List.all_cons]
    have hlk := hexOk_iff u
    by_cases h : hexOk u = true
    · have h' := hlk.1 h
      rw [h, Bool.true_and]
      refine Ev.step (fun k => ?_) ih'
      simp only [digest_Named.l0]
      rw [if_pos (by omega), if_pos (by omega), if_pos (by omega), hb, hw, if_neg (by omega)]
      by_cases h4 : (u.toNat : Int) > 57
      · rw [if_pos h4, if_neg (by omega), if_neg (by omega)]
      · rw [if_neg h4]
    · have h' := mt hlk.2 h
      rw [Bool.not_eq_true] at h
      rw [h, Bool.false_and, Bool.false_and]
      refine Ev.step (f := fun _ => some false) (fun k => ?_) (Ev.now _)
      simp only [digest_Named.l0]
      rw [if_pos (by omega), if_pos (by omega), if_pos (by omega), hb]
      by_cases h4 : (u.toNat : Int) < 48
      · rw [if_pos h4, if_pos (by omega)]
      · rw [if_neg h4, if_pos (by omega)]
        by_cases h6 : (u.toNat : Int) < 97
        · rw [if_pos h6]
        · rw [if_neg h6, if_pos (by omega)]
theorem dnamed_ev (s : ByteArray) (hs : s.size ≤ 1000000000000) : Ev (fun k => digest_Named.f k s) (nmB s) := by
  have := dnamed_l0 s hs s.size 0 (by omega) (by omega)
  rw [List.drop_zero] at this
  exact this
theorem may_ev (s : ByteArray) (hs : s.size ≤ 1000000000000) : Ev (fun k => refs_may.f k s) (decide (s.size = 0) || nmB s) := by
  unfold refs_may.f
  by_cases h : s.size = 0
  · rw [decide_eq_true h, Bool.true_or]
    exact Ev.congr (fun k => if_pos ((toL_nil s).2 h)) (Ev.now _)
  · rw [decide_eq_false h, Bool.false_or]
    exact Ev.congr (fun k => if_neg (fun e => h ((toL_nil s).1 e))) (Ev.bind (dnamed_ev s hs) (Ev.now _))
def aboveB (a b : ByteArray) : Bool := (L a ++ [47]).isPrefixOf (L b)
theorem above_eq (a b : ByteArray) (ha : a.size ≤ 1000000000000) (hb : b.size ≤ 1000000000000) : refs_above.f a b = some (aboveB a b) := by
  unfold refs_above.f strings_HasPrefix.f stringslite_HasPrefix.f aboveB
  have hsz : (a ++ (⟨#[47]⟩ : ByteArray)).size = a.size + 1 := by rw [ByteArray.size_append]; rfl
  have hL : L (a ++ (⟨#[47]⟩ : ByteArray)) = L a ++ [47] := by simp [L, ByteArray.data_append]
  rw [if_pos (by omega), hsz]
  by_cases h : a.size + 1 ≤ b.size
  · rw [if_pos (by omega), if_pos (by omega), if_pos (by omega), Option.bind_some, Option.bind_some, Int.toNat_natCast, toL, toL, hL]
    have he : L (b.extract 0 (a.size + 1)) = (L b).take (a.size + 1) := by
      simp [L, ByteArray.data_extract]
    rw [he]
    congr 1
    rw [Bool.eq_iff_iff, beq_iff_eq, List.isPrefixOf_iff_prefix, List.prefix_iff_eq_take]
    have : (L a ++ [47]).length = a.size + 1 := by rw [List.length_append, L_len]; rfl
    rw [this]
    exact ⟨fun h => h.symm, fun h => h.symm⟩
  · rw [if_neg (by omega), Option.bind_some, Option.bind_some]
    congr 1
    symm
    rw [Bool.eq_false_iff]
    intro hp
    have := (List.isPrefixOf_iff_prefix.1 hp).length_le
    rw [List.length_append, L_len, L_len] at this
    simp at this
    omega
end Go.Proofs.YtacgchklilfcaaaGreatDoor.Rf
namespace Go.Proofs.YtacgchklilfcaaaGreatDoor.Rf
set_option linter.unusedVariables false
set_option linter.unusedSimpArgs false
open Go Go.RowKit Go.Proofs.YtacgchklilfcaaaGreatDoorW.PrintWords Go.Proofs.YtacgchklilfcaaaGreatDoorW.PrintLast Go.Proofs.YtacgchklilfcaaaGreatDoorW.PrintMore PRfBase
set_option maxHeartbeats 4000000 in
set_option maxRecDepth 100000 in
theorem find1 (x : Ref) (s : ByteArray) (ad : Addr) (w : World) (h : w.cell? ad = some (.string s)) :
    Calls Tryz.prog 42 #[.agg #[.string x.f0, .string x.f1], .pointer (some ad)] w fun e w' => e = .returned (.bool (decide (x.f0 = s))) ∧ Below w.heap.size w w' := by
  have h1 : ∀ o, (w.alloc o).cell? ad = some (.string s) := fun o => pw_cell_below ((Below.refl _ _).alloc (Nat.le_refl _) o) h
  go_enter Tryz.func42, Tryz.ntmps42
  go_wp2_with (fail)
  go_ret
  refine ⟨?_, (Below.refl _ _).alloc (Nat.le_refl _) _⟩
  show Ending.returned (.bool (x.f0.toList == s.toList)) = _
  congr 2
  rw [Bool.eq_iff_iff, beq_iff_eq, toL_inj, decide_eq_true_iff]
theorem fst_get {α : Type} (p : α → Bool) (l : List α) : (fst p l = -1 ∧ l.find? p = none) ∨ (∃ i x, fst p l = (i : Nat) ∧ l[i]? = some x ∧ p x = true ∧ l.find? p = some x) := by
  unfold fst
  cases h : l.findIdx? p with
  | none =>
    rw [List.findIdx?_eq_none_iff] at h
    exact .inl ⟨rfl, List.find?_eq_none.2 (fun x hx => by rw [h x hx]; simp)⟩
  | some i =>
    obtain ⟨h1, h2, h3⟩ := List.findIdx?_eq_some_iff_getElem.1 h
    refine .inr ⟨i, l[i], rfl, List.getElem?_eq_getElem h1, h2, ?_⟩
    rw [List.find?_eq_some_iff_getElem]
    exact ⟨h2, i, h1, rfl, fun j hj => by simpa using h3 j hj⟩
def findL (l : List Ref) (s : ByteArray) : ByteArray := match l.find? (fun x => decide (x.f0 = s)) with | some x => x.f1 | none => ⟨#[]⟩
set_option maxHeartbeats 4000000 in
set_option maxRecDepth 100000 in
theorem find_walk (A : Option Addr) (c n : Nat) (l : List Ref) (s : ByteArray) (w : World) (hC : Kd.C k46 w A n l) (hn : l.length = n) (hc : n ≤ c) :
    Calls Tryz.prog 13 #[.slice A n c, .string s] w fun e w' => e = .returned (.string (findL l s)) ∧ Below w.heap.size w w' := by
  have HC := As.mk hC
  have HN := As.mk hn
  have hmax := Kd.C_max hC
  clear hC hn
  go_enter Tryz.func13, Tryz.ntmps13
  go_wp2_with (fail)
  have hb0 : Below w.heap.size w (w.alloc (.cells #[.string s] 9)) := (Below.refl _ _).alloc (Nat.le_refl _) _
  have hcell : (w.alloc (.cells #[.string s] 9)).cell? ⟨w.heap.size, 0, none⟩ = some (.string s) := by simp
  refine (firstRef1 A c n l 42 (.pointer (some ⟨w.heap.size, 0, none⟩)) (fun x => decide (x.f0 = s)) _ (Kd.C_below HC.out hb0) HN.out hc (enters_of Tryz.func42 (by kernel_rfl) rfl) (fun W x hb hx => find1 x s _ W (pw_cell_below hb hcell))).mono ?_
  rintro e w1 ⟨rfl, hb⟩
  have HB : As (Below w.heap.size w w1) := ⟨hb0.trans (hb.mono hb0.size)⟩
  clear hb hb0 hcell
  rcases fst_get (fun x : Ref => decide (x.f0 = s)) l with ⟨hf, hno⟩ | ⟨i, x, hf, hx, hp, hfind⟩
  · have HNO := As.mk hno
    clear hno
    go_wp2_with (fail)
    go_ret
    exact ⟨by rw [findL, HNO.out]; rfl, HB.out⟩
  · have HFD := As.mk hfind
    clear hfind hp
    have hil := (List.getElem?_eq_some_iff.1 hx).1
    rw [HN.out] at hil
    obtain ⟨ad, rfl, h0, h1⟩ := at_T46 (Kd.C_below HC.out HB.out) (i : Int) (by omega) (by omega)
    rw [Int.toNat_natCast] at h0 h1
    have hrd : rd_T46 l (i : Int) = x := by simp [rd_T46, hx]
    rw [hrd] at h0 h1
    clear hrd hx
    go_wp2_with (fail)
    go_ret
    exact ⟨by rw [findL, HFD.out]; rfl, HB.out⟩
end Go.Proofs.YtacgchklilfcaaaGreatDoor.Rf
namespace Go.Proofs.YtacgchklilfcaaaGreatDoor.Rf
set_option linter.unusedVariables false
set_option linter.unusedSimpArgs false
open Go Go.RowKit Go.Proofs.YtacgchklilfcaaaGreatDoorW.PrintWords Go.Proofs.YtacgchklilfcaaaGreatDoorW.PrintLast Go.Proofs.YtacgchklilfcaaaGreatDoorW.PrintMore PRfBase Go.Proofs.YtacgchklilfcaaaGreatDoor.Gl
theorem letters_walk (s : ByteArray) (hs : s.size ≤ 1000000000000) (w : World) : Calls Tryz.prog 36 #[.string s] w fun e w' => e = .returned (.bool (letB s)) ∧ Below w.heap.size w w' := by
  obtain ⟨k, hk⟩ := (letters_ev s hs).rounds
  exact (refs_letters.calls k s _ w hk).mono fun e w' h => ⟨h.1, h.2.below⟩
theorem dnamed_walk (s : ByteArray) (hs : s.size ≤ 1000000000000) (w : World) : Calls Tryz.prog 38 #[.string s] w fun e w' => e = .returned (.bool (nmB s)) ∧ Below w.heap.size w w' := by
  obtain ⟨k, hk⟩ := (dnamed_ev s hs).rounds
  exact (digest_Named.calls k s _ w hk).mono fun e w' h => ⟨h.1, h.2.below⟩
theorem above_walk (a b : ByteArray) (ha : a.size ≤ 1000000000000) (hb : b.size ≤ 1000000000000) (w : World) : Calls Tryz.prog 28 #[.string a, .string b] w fun e w' => e = .returned (.bool (aboveB a b)) ∧ Below w.heap.size w w' := (refs_above.calls a b _ w (above_eq a b ha hb)).mono fun e w' h => ⟨h.1, h.2.below⟩
set_option maxHeartbeats 4000000 in
set_option maxRecDepth 100000 in
theorem named1 (s : ByteArray) (hs : s.size ≤ 1000000000000) (w : World) : Calls Tryz.prog 35 #[.string s] w fun e w' => e = .returned (.bool (!letB s)) ∧ Below w.heap.size w w' := by
  go_enter Tryz.func35, Tryz.ntmps35
  go_wp2_with (fail)
  refine (letters_walk s hs w).mono ?_
  rintro e w1 ⟨rfl, hb⟩
  go_wp2_with (fail)
  go_ret
  exact ⟨rfl, hb⟩
theorem splitL_le (c : UInt8) : ∀ (l : List UInt8), ∀ x ∈ splitL c l, x.length ≤ l.length
  | [] => by intro x hx; simp [splitL] at hx; subst hx; exact Nat.le_refl _
  | b :: r => by
    intro x hx
    have ih := splitL_le c r
    rw [splitL] at hx
    by_cases hb : b = c
    · rw [if_pos hb] at hx
      rcases List.mem_cons.1 hx with rfl | hx
      · simp
      · have := ih x hx; simp; omega
    · rw [if_neg hb] at hx
      rcases hs : splitL c r with _ | ⟨h, t⟩
      · rw [hs] at hx; simp at hx; subst hx; simp
      · rw [hs] at hx ih
        rcases List.mem_cons.1 hx with rfl | hx
        · have := ih h List.mem_cons_self; simp; omega
        · have := ih x (List.mem_cons_of_mem _ hx); simp; omega
theorem split_size (c : UInt8) (s : ByteArray) : ∀ x ∈ splitS c s, x.size ≤ s.size := by
  intro x hx
  obtain ⟨y, hy, rfl⟩ := List.mem_map.1 hx
  have := splitL_le c _ y hy
  rw [show s.data.toList.length = s.size from L_len s] at this
  exact this
def heads : ByteArray := ⟨#[104, 101, 97, 100, 115]⟩
def tags : ByteArray := ⟨#[116, 97, 103, 115]⟩
def nameB (s : ByteArray) : Bool := decide (s.size ≤ 80) && (decide (2 ≤ (splitS 47 s).length) && decide ((splitS 47 s).length ≤ 4)) && (decide ((splitS 47 s).head? = some heads) || decide ((splitS 47 s).head? = some tags)) && ((splitS 47 s).drop 1).all letB
set_option maxHeartbeats 8000000 in
set_option maxRecDepth 100000 in
theorem named_walk (s : ByteArray) (hs : s.size ≤ 1000000000) (w : World) : Calls Tryz.prog 9 #[.string s] w fun e w' => e = .returned (.bool (nameB s)) ∧ Below w.heap.size w w' := by
  go_enter Tryz.func9, Tryz.ntmps9
  go_wp2_with (fail)
  refine (split_calls s 47 w hs).mono ?_
  rintro e w1 ⟨v, rfl, hR, hb⟩
  obtain ⟨A, c, rfl, hc, hC⟩ := Kd.R_reads hR
  have hlen := splitL_len 47 s.data.toList
  have hl1 : 1 ≤ (splitS 47 s).length := by rw [splitS, List.length_map]; omega
  clear hlen
  have hsz : ∀ x ∈ splitS 47 s, x.size ≤ s.size := split_size 47 s
  have HN : As (∀ l, splitS 47 s = l → nameB s = (decide (s.size ≤ 80) && (decide (2 ≤ l.length) && decide (l.length ≤ 4)) && (decide (l.head? = some heads) || decide (l.head? = some tags)) && (l.drop 1).all letB)) := ⟨fun l h => by rw [← h]; rfl⟩
  generalize hl : splitS 47 s = l at hR hc hC hl1 hsz ⊢
  have HSZ := As.mk hsz
  clear hsz
  have HNM := As.mk (HN.out l hl)
  have HC := As.mk hC
  have HB := As.mk hb
  have hmax := Kd.C_max hC
  clear hR hC hb hl HN
  obtain ⟨ad, rfl, h0⟩ := at_str HC.out 0 (by omega) (by omega)
  obtain ⟨x, hx⟩ : ∃ x, rd_str l 0 = x := ⟨_, rfl⟩
  have HX := As.mk (rd_str_at (i := 0) (by omega) hx)
  rw [hx] at h0
  have hadd : ad.add 0 = ad := by unfold Addr.add; simp
  rw [show (0 : Int).toNat = 0 from rfl, hadd] at h0
  clear hx
  by_cases c80 : 80 < s.size
  · go_wp2_with (fail)
    go_ret
    exact ⟨by rw [HNM.out, decide_eq_false (by omega)]; rfl, HB.out⟩
  by_cases c2 : l.length < 2
  · go_wp2_with (fail)
    go_ret
    exact ⟨by rw [HNM.out, decide_eq_false (p := 2 ≤ l.length) (by omega)]; simp, HB.out⟩
  by_cases c4 : 4 < l.length
  · go_wp2_with (fail)
    go_ret
    exact ⟨by rw [HNM.out, decide_eq_false (p := l.length ≤ 4) (by omega)]; simp, HB.out⟩
  have HH : As ((x.toList == [104, 101, 97, 100, 115]) = decide (l.head? = some heads)) := ⟨by
    rw [List.head?_eq_getElem?, HX.out, Bool.eq_iff_iff, beq_iff_eq, decide_eq_true_iff, show [104, 101, 97, 100, 115] = heads.toList by rw [toL]; rfl, toL_inj]
    exact ⟨fun h => by rw [h], fun h => Option.some.inj h⟩⟩
  have HT : As ((x.toList == [116, 97, 103, 115]) = decide (l.head? = some tags)) := ⟨by
    rw [List.head?_eq_getElem?, HX.out, Bool.eq_iff_iff, beq_iff_eq, decide_eq_true_iff, show [116, 97, 103, 115] = tags.toList by rw [toL]; rfl, toL_inj]
    exact ⟨fun h => by rw [h], fun h => Option.some.inj h⟩⟩
  have hadd1 : ad.add 1 = ⟨ad.block, ad.off + 1, none⟩ := by
    have := add_field ad 0 1 (by omega)
    rw [hadd] at this
    exact this
  have HC2 : As (Kd.C Kd.string w1 (some ⟨ad.block, ad.off + 1, none⟩) (l.length - 1) (l.drop 1)) := ⟨by
    have := ReadsOf.drop_ (Kd.reads_of_C (d := ByteArray.empty) HC.out) 1 (by omega) hc
    rw [if_neg (by omega), Option.map_some, hadd1] at this
    exact Kd.C_of_reads this⟩
  clear hadd hadd1
  have HAS := As.mk (hasStr0 (some ⟨ad.block, ad.off + 1, none⟩) (c - 1) (l.length - 1) (l.drop 1) 35 (.bool true) (fun x => !letB x) w1 HC2.out (by rw [List.length_drop]) (by omega) (enters_of Tryz.func35 (by kernel_rfl) rfl) (fun W x hb hx => named1 x (by have := HSZ.out x (List.mem_of_mem_drop hx); omega) W))
  have HLET : As ((!l.tail.any (fun x => !letB x)) = (l.drop 1).all letB) := ⟨by rw [List.drop_one, ← List.not_all_eq_any_not, Bool.not_not]⟩
  clear HC2
  rcases hx1 : (x.toList == [104, 101, 97, 100, 115]) with _ | _
  · rcases hx2 : (x.toList == [116, 97, 103, 115]) with _ | _
    · go_wp2_with (fail)
      go_ret
      exact ⟨by rw [HNM.out, ← HH.out, ← HT.out, hx1, hx2]; simp, HB.out⟩
    · go_wp2_with (fail)
      refine HAS.out.mono ?_
      rintro e w2 ⟨rfl, hb⟩
      have HB2 := As.mk hb
      clear hb
      go_wp2_with (fail)
      go_ret
      exact ⟨by
        show Ending.returned (.bool (!l.tail.any (fun x => !letB x))) = _
        rw [HNM.out, ← HH.out, ← HT.out, hx1, hx2, HLET.out, decide_eq_true (by omega), decide_eq_true (p := 2 ≤ l.length) (by omega), decide_eq_true (p := l.length ≤ 4) (by omega)]; simp, HB.out.trans (HB2.out.mono HB.out.size)⟩
  · go_wp2_with (fail)
    refine HAS.out.mono ?_
    rintro e w2 ⟨rfl, hb⟩
    have HB2 := As.mk hb
    clear hb
    go_wp2_with (fail)
    go_ret
    exact ⟨by
      show Ending.returned (.bool (!l.tail.any (fun x => !letB x))) = _
      rw [HNM.out, ← HH.out, hx1, HLET.out, decide_eq_true (by omega), decide_eq_true (p := 2 ≤ l.length) (by omega), decide_eq_true (p := l.length ≤ 4) (by omega)]; simp, HB.out.trans (HB2.out.mono HB.out.size)⟩
end Go.Proofs.YtacgchklilfcaaaGreatDoor.Rf
