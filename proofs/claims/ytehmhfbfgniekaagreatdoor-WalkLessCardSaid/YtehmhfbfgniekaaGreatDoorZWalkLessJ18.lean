/- Joined texts: MDigB, MRef. No condition but what stands in each. -/
import Derived.Test.YtehmhfbfgniekaaGreatDoorZWalkLessJ16
import Derived.Test.YtehmhfbfgniekaaGreatDoorZWalkLessJ17
import Derived.Outline
import Derived.BigRegion
import Derived.Test.YtehmhfbfgniekaaGreatDoorZWalkLessJ15
import Derived.Stop.BytesEq
import Derived.Test.YtehmhfbfgniekaaGreatDoorProg
import Derived.Test.YtehmhfbfgniekaaGreatDoorZWalkLessJ2
import Derived.SizedLaws
import Derived.ChangeSlices
import Derived.Below
import Derived.Deep.Draws
import Derived.OwnWalk
import Derived.Tactics
import Derived.WalkKit
import Derived.KernelRfl
import Derived.RowKit3
import Derived.Deep.LoopGhost
import Derived.Deep.QuietTactic
import Derived.BigQuiet
import Derived.WideLaws
import Derived.Deep.DeepCutAuto
import Derived.Deep.CutBlock
import Derived.Laws.Rows
namespace Go.Proofs.YtehmhfbfgniekaaGreatDoor.Dg
set_option linter.unusedVariables false
set_option linter.unusedSimpArgs false
open Go.RowKit Blk Go.Proofs.YtehmhfbfgniekaaGreatDoorW.PrintWords Go.Proofs.YtehmhfbfgniekaaGreatDoorW.PrintLast Go.Proofs.YtehmhfbfgniekaaGreatDoorW.PrintMore
def runs : Nat → List Int → List W → List W
  | 0, _, H => H
  | n + 1, l, H => runs n (l.drop 64) (blk KK (l.take 64) H)
theorem runs_snoc (n : Nat) : ∀ (l : List Int) (H : List W), runs (n + 1) l H = blk KK ((l.drop (64 * n)).take 64) (runs n l H) := by
  induction n with
  | zero => intro l H; simp [runs]
  | succ n ih =>
    intro l H
    rw [runs, ih, List.drop_drop]
    rw [show 64 + 64 * n = 64 * (n + 1) by omega]
    rfl
theorem cell_of_C {w : World} {ad : Addr} {n : Nat} {l : List Int} (h : (Kd.int .u8).C w (some ad) n l) (i : Nat) (hi : i < n) : w.cell? (ad.add i) = some (.int .u8 (l.getD i 0)) := by
  obtain ⟨_, h1, h2⟩ := Kd.at_int h (i : Int) (by omega) (by omega)
  cases h1
  simpa [rd] using h2
theorem cell_lt {w : World} {a : Addr} {v : Value} (h : w.cell? a = some v) : a.block < w.heap.size := by
  unfold World.cell? at h
  rcases hb : w.heap[a.block]? with _ | o
  · simp [hb] at h
  · exact (Array.getElem?_eq_some_iff.1 hb).1
theorem cell_spot {w : World} {a : Addr} {v : Value} (h : w.cell? a = some v) : a.spot = none := by
  unfold World.cell? at h
  split at h
  · split at h
    · cases h
    · rename_i hs; simpa using hs
  · cases h
theorem take_any (bs cap : Nat) (A : Option Addr) (H : List W) (m : List Int) (w : World) (hH : H.length = 8) (hm : m.length = 64) (hm8 : ∀ x ∈ m, 0 ≤ x ∧ x < 256)
    (hS : Row w bs 143 ((H ++ KK).map V)) (hC : (Kd.int .u8).C w A 64 m) :
    Calls Tryz.prog 102 #[.pointer (some ⟨bs, 0, none⟩), .slice A 64 cap] w fun e w' =>
      e = .returned (.tuple #[]) ∧ Row w' bs 143 ((blk KK m H ++ KK).map V) ∧ But w.heap.size bs w w' := by
  obtain ⟨ad, rfl, _⟩ := Kd.at_int hC (0 : Int) (by omega) (by omega)
  have h0 := cell_of_C hC 0 (by omega)
  obtain ⟨bb, off, sp⟩ := ad
  have hs : sp = none := by simpa [Addr.add] using cell_spot h0
  subst hs
  refine take_calls bs bb off cap H KK m w hH (by simp [KK, P64_len]) hm hS (fun i hi => ?_) hm8 ?_
  · have := cell_of_C hC i hi
    unfold Addr.add at this
    split at this
    · rename_i h; subst h; exact this
    · exact this
  · simpa [Addr.add] using cell_lt h0
theorem KK_len : KK.length = 64 := by simp [KK, P64_len]
theorem IV_len : IV.length = 8 := by simp [IV, P64_len]
theorem blk_len (m : List Int) (H : List W) (h : H.length = 8) : (blk KK m H).length = 8 := by simp [blk, St.list, h]
theorem runs_len (n : Nat) : ∀ (l : List Int) (H : List W), H.length = 8 → (runs n l H).length = 8 := by
  induction n with
  | zero => intro l H h; exact h
  | succ n ih => intro l H h; exact ih _ _ (blk_len _ _ h)
theorem own_empty (W : World) (base : Nat) (h : base ≤ W.heap.size) :
    (Kd.int .u8).R 5 (W.alloc (.cells #[] 5)) base (fun _ => True) (.slice (some ⟨W.heap.size, 0, none⟩) 0 0) [] := by
  refine ⟨fun _ _ => trivial, [], ?_, ?_⟩
  · have := World.ownsRow_lit (base := base) (e := 5) (size := 1) W #[] 0 h (by decide) (by simp)
    exact (by simpa using this : (W.alloc (.cells #[] 5)).ownsRow base 5 1 (.slice (some ⟨W.heap.size, 0, none⟩) 0 0) 0 [])
  · exact ⟨rfl, fun j p hj => by simp at hj⟩
theorem info_u8 : (Tryz.prog.info? 5).map (fun i => (i.zero, i.size, i.bytes)) = some (some (.int .u8 0), 1, 1) := by kernel_rfl
def Z32 : Array Value := (List.replicate 32 (.int .u8 0)).toArray
theorem zero_32 (w : World) : (zeroValue 101).run Tryz.prog w = .ok (.agg Z32) w := by kernel_rfl
structure Sm (w : World) (bs : Nat) (H : List W) (wr : World) : Prop where
  sums : Row wr bs 143 ((H ++ KK).map V)
  box : Row wr w.heap.size 101 (List.replicate 32 (.int .u8 0))
  below : Below w.heap.size w wr
  lt : w.heap.size < bs
theorem Sm.alloc {w wr : World} {bs : Nat} {H : List W} (h : Sm w bs H wr) (o : Obj) : Sm w bs H (wr.alloc o) :=
  ⟨h.sums.alloc o, h.box.alloc o, h.below.alloc (below_size h.below) o, h.lt⟩
theorem Sm.grown {w wr w1 : World} {bs : Nat} {H : List W} {v : Value} (h : Sm w bs H wr) (hg : wr.grownBy w1 v.ownBlock) (hv : ∀ k, v.ownBlock = some k → bs < k) (hb : Below w.heap.size w w1) : Sm w bs H w1 :=
  ⟨h.sums.grown hg (fun e => by have := hv _ e; omega), h.box.grown hg (fun e => by have := hv _ e; have := h.lt; omega), hb, h.lt⟩
theorem Sm.size {w wr : World} {bs : Nat} {H : List W} (h : Sm w bs H wr) : bs < wr.heap.size := h.sums.lt
abbrev Own (wr : World) (N bs : Nat) (v : Value) (xs : List Int) : Prop := (Kd.int .u8).R 5 wr N (fun k => bs < k) v xs
theorem own_empty' (W : World) (base bs : Nat) (h : base ≤ W.heap.size) (hb : bs < W.heap.size) :
    Own (W.alloc (.cells #[] 5)) base bs (.slice (some ⟨W.heap.size, 0, none⟩) 0 0) [] :=
  ⟨fun k hk => by have : W.heap.size = k := by simpa [Value.ownBlock] using hk
                  omega, (own_empty W base h).2.imp_ (fun _ _ h => h)⟩
def lenOf : Value → Nat
  | .slice _ n _ => n
  | _ => 0
theorem C_but {w w' : World} {A : Option Addr} {n : Nat} {l : List Int} {g bs : Nat} (h : (Kd.int .u8).C w A n l) (hb : But g bs w w') (hne : ∀ ad, A = some ad → ad.block ≠ bs ∧ ad.block < g) : (Kd.int .u8).C w' A n l := by
  obtain ⟨h1, h2, h3⟩ := Kd.reads_of_C (enc := Value.int .u8) (d := (0 : Int)) (h1 := fun _ => rfl) h
  refine Kd.C_of_reads (enc := Value.int .u8) (d := (0 : Int)) ⟨h1, h2, fun hn => ?_⟩
  obtain ⟨ad, rfl, hc⟩ := h3 hn
  refine ⟨ad, rfl, fun j hj => ?_⟩
  have hne' := hne ad rfl
  rw [World.cell?_of_block (w := w) (hb.block (ad.add j).block (by rw [Blk.add_block]; exact hne'.2) (by rw [Blk.add_block]; exact hne'.1))]
  exact hc j hj
def be (x : W) : List Int := [u x / 16777216 % 256, u x / 65536 % 256, u x / 256 % 256, u x % 256]
def outp (H : List W) (i : Nat) : List Int := (H.take i).flatMap be ++ List.replicate (32 - 4 * i) 0
theorem below_setRow {B g : Nat} {w w' : World} (h : Below B w w') (hg : B ≤ g) (cs : Array Value) : Below B w (w'.setRow g cs) :=
  h.trans ⟨rfl, rfl, rfl, by simp, fun k hk => setRow_other w' g k cs (by omega)⟩
theorem all_u8 (l : List Int) : ((l.map (Value.int .u8)).toArray).all (·.oneCell') = true := by simp [Value.oneCell']
theorem info_32 : (Tryz.prog.info? 101).map (·.size) = some 32 := by kernel_rfl
theorem outp_len (a b c d e f g h : W) : (outp [a, b, c, d, e, f, g, h] 8).length = 32 := by rfl
def zs (L : Nat) : Nat := (119 - L % 64) % 64
def lenb (L : Nat) : List Int := [56, 48, 40, 32, 24, 16, 8, 0].map fun s => (((8 * L) / 2 ^ s % 256 : Nat) : Int)
def padded (r : List Int) (L : Nat) : List Int := r ++ [128] ++ List.replicate (zs L) 0 ++ lenb L
def shaL (l : List Int) : List Int :=
  outp (runs ((padded (l.drop (64 * (l.length / 64))) l.length).length / 64) (padded (l.drop (64 * (l.length / 64))) l.length) (runs (l.length / 64) l IV)) 8
set_option maxHeartbeats 4000000 in
set_option maxRecDepth 100000 in
theorem sum_calls (A : Option Addr) (c : Nat) (l : List Int) (w : World) (hC : (Kd.int .u8).C w A l.length l) (hc : l.length ≤ c) (hl : l.length ≤ 1099511627776) (h8 : ∀ x ∈ l, 0 ≤ x ∧ x < 256) :
    Calls Tryz.prog 83 #[.slice A l.length c] w fun e w' => e = .returned (.agg ((shaL l).map (Value.int .u8)).toArray) ∧ Below w.heap.size w w' := by
  have HC := As.mk hC
  have H8 := As.mk h8
  have hz := zero_32
  clear hC h8
  go_enter Tryz.func83, Tryz.ntmps83
  go_wp2_with (fail)
  refine (begin_calls _).mono ?_
  rintro e w1 ⟨bs, rfl, hbs, hS, hb⟩
  have hbs' : w.heap.size < bs := by have := hbs; simp at this; omega
  have HS : As (Row w1 bs 143 ((runs 0 l IV ++ KK).map V)) := ⟨hS⟩
  have HR : As (Row w1 w.heap.size 101 (List.replicate 32 (.int .u8 0))) := ⟨(Row.new w (List.replicate 32 (.int .u8 0)) 101).below' hb⟩
  have hw : As (Below w.heap.size w w1) := ⟨((Below.refl w.heap.size w).alloc (Nat.le_refl _) _).trans (hb.mono (by simp))⟩
  clear hS hb hbs
  go_wp2
  go_loopw [0] (fun v0 wr => ∃ (j : Nat) (A' : Option Addr) (c' : Nat) (r : List Int), v0 = .slice A' r.length c' ∧ r.length ≤ c' ∧ r.length + 64 * j = l.length ∧ As (r = l.drop (64 * j)) ∧ As ((Kd.int .u8).C w A' r.length r) ∧ As (Sm w bs (runs j l IV) wr)) (fun v0 _ => lenOf v0)
  case atStart => exact ⟨0, A, c, l, rfl, hc, by omega, ⟨by simp⟩, HC, ⟨⟨HS.out, HR.out, hw.out, hbs'⟩⟩⟩
  case round =>
    clear HC HS HR hw
    obtain ⟨j, A', c', r, rfl, hc', hj, Hr, HC, HS⟩ := hrel
    by_cases h64 : 64 ≤ r.length
    · have ht : (r.take 64).length = 64 := by simp; omega
      have hd : (r.drop 64).length = r.length - 64 := by simp
      have hC64 := Kd.C_take HC.out h64
      rw [ht] at hC64
      have hCd := Kd.C_drop HC.out h64 hc'
      rw [hd] at hCd
      have HC64 := As.mk hC64
      have HCd := As.mk hCd
      clear hC64 hCd ht hd
      go_wp2_with (fail)
      refine (take_any bs c' A' (runs j l IV) (r.take 64) wr (runs_len _ _ _ IV_len) (by simp; omega) (fun x hx => H8.out x ?_) HS.out.sums (Kd.C_below HC64.out HS.out.below)).mono ?_
      · have := List.mem_of_mem_take hx
        rw [Hr.out] at this
        exact List.mem_of_mem_drop this
      rintro e w2 ⟨rfl, hS2, hb2⟩
      have hlt := HS.out.box.lt
      have hs2 := below_size HS.out.below
      replace HS : As (Sm w bs (runs (j + 1) l IV) w2) := ⟨⟨by rw [runs_snoc, ← Hr.out]; exact hS2, HS.out.box.but hlt (by omega) hb2, HS.out.below.trans (hb2.below (by omega) (by omega)), hbs'⟩⟩
      clear hS2 hb2
      by_cases hcc : c' = 64
      · subst hcc
        have hr : r.length = 64 := by omega
        go_wp2_with (fail)
        refine ⟨⟨j + 1, A', 0, r.drop 64, by simp [hr], by simp [hr], by simp [hr]; omega, ⟨by rw [Hr.out, List.drop_drop]; rfl⟩, ?_, HS⟩, by simp [lenOf, hr]⟩
        have h1 : (Kd.int .u8).C w A' (r.length - 64) (r.drop 64) := by
          have := HCd.out
          simp only [if_true] at this
          exact this
        exact ⟨by rw [List.length_drop]; exact h1⟩
      · obtain ⟨ad, rfl, _⟩ := Kd.at_int HC.out (0 : Int) (by omega) (by omega)
        go_wp2_with (fail)
        refine ⟨⟨j + 1, some ⟨ad.block, ad.off + 64, none⟩, c' - 64, r.drop 64, by simp, by simp; omega, by simp; omega, ⟨by rw [Hr.out, List.drop_drop]; rfl⟩, ?_, HS⟩, by simp [lenOf]; omega⟩
        have := HCd.out
        rw [if_neg hcc] at this
        refine ⟨?_⟩
        rw [List.length_drop]; exact this
    · have HN := As.mk hbs'
      have hE := As.mk (own_empty' wr w.heap.size bs (below_size HS.out.below) HS.out.size)
      have hCr := As.mk (Kd.C_alloc (Kd.C_below HC.out HS.out.below) (.cells #[] 5))
      replace HS : As (Sm w bs (runs j l IV) (wr.alloc (.cells #[] 5))) := ⟨HS.out.alloc _⟩
      clear hbs'
      go_wp2_with (first
        | ((with_reducible refine gate_builtin (b := .append) (xs := #[.tmp 24, .tmp 25]) rfl ?_); at_builtin; refine Kd.R_append_rows (Kd.int .u8) (Rr := (Kd.int .u8).K (wr.alloc (.cells #[] 5))) (w0 := w) w.heap.size rfl (.tmp 24) (.tmp 25) 80 5 (.int .u8 0) 1 rfl Tryz.underlying80 info_u8 rfl (by decide) (by omega) (.slice (some ⟨wr.heap.size, 0, none⟩) 0 0) [] r A' r.length c' (fun k => bs < k) (fun _ => False) rfl rfl hE.out hCr.out (fun _ _ h => h) (fun _ hk => hk.elim) (fun k hk => Nat.lt_of_lt_of_le HS.out.size hk) HS.out.below (below_size HS.out.below) (by simp; omega) ?_; intro v1 w1 ho hb1 hg hat; have HO := As.mk ho; have HS1 := As.mk (HS.out.grown hg hE.out.1 hb1); clear ho hb1 hat hg)
        | ((with_reducible refine gate_builtin (b := .append) (xs := #[.tmp 26, .tmp 27]) rfl ?_); at_builtin; refine Kd.R_append (Kd.int .u8) (w0 := w) w.heap.size rfl (.tmp 26) (.tmp 27) 80 5 (.int .u8 0) 1 rfl Tryz.underlying80 info_u8 rfl (by decide) (by omega) _ ([] ++ r) 128 [.int .u8 128] (fun k => bs < k) (fun _ => False) rfl rfl rfl (fun _ hk => hk.elim) (fun k hk => Nat.lt_of_lt_of_le HS1.out.size hk) HO.out HS1.out.below (below_size HS1.out.below) (by simp; omega) ?_; intro v2 w2 ho hb1 hg hat; have HO2 := As.mk ho; have HS2 := As.mk (HS1.out.grown hg HO.out.1 hb1); clear ho hb1 hat hg)
        | fail)
      clear HS HS1 HO hE hCr
      rw [List.nil_append] at HO2
      go_loopw [5] (fun v5 wr => ∃ z : Nat, z ≤ zs l.length ∧ As (Own wr w.heap.size bs v5 (r ++ [128] ++ List.replicate z 0)) ∧ As (Sm w bs (runs j l IV) wr)) (fun v5 _ => (120 - lenOf v5 % 64) % 64)
      case atStart => exact ⟨0, Nat.zero_le _, by simpa using HO2, HS2⟩
      case round =>
        clear HO2 HS2
        obtain ⟨z, hz', HO, HS⟩ := hrel
        obtain ⟨A5, c5, rfl, hc5, hC5⟩ := Kd.R_reads HO.out
        have hn : (r ++ [128] ++ List.replicate z 0).length = r.length + 1 + z := by simp; omega
        have HC5 := As.mk hC5
        clear hC5
        generalize hxs : r ++ [128] ++ List.replicate z 0 = xs at *
        generalize hnn : xs.length = n at *
        have hzs : zs l.length = (119 - l.length % 64) % 64 := rfl
        have hz64 : z < 64 := by omega
        by_cases hlt : z < zs l.length
        · have ht : ((n : Int) % 64 != 56) = true := by rw [bne_iff_ne]; omega
          have Hxs := As.mk hxs
          have Hn := As.mk hnn
          clear hxs hnn hzs
          go_wp2_with (first
            | ((with_reducible refine gate_builtin (b := .append) (xs := #[.tmp 33, .tmp 34]) rfl ?_); at_builtin; refine Kd.R_append (Kd.int .u8) (w0 := w) w.heap.size rfl (.tmp 33) (.tmp 34) 80 5 (.int .u8 0) 1 rfl Tryz.underlying80 info_u8 rfl (by decide) (by omega) _ xs 0 [.int .u8 0] (fun k => bs < k) (fun _ => False) rfl rfl rfl (fun _ hk => hk.elim) (fun k hk => Nat.lt_of_lt_of_le HS.out.size hk) HO.out HS.out.below (below_size HS.out.below) (by rw [Hn.out]; omega) ?_; intro v2 w2 ho hb1 hg hat; have HO2 := As.mk ho; have HS2 := As.mk (HS.out.grown hg HO.out.1 hb1); clear ho hb1 hat hg)
            | fail)
          obtain ⟨A6, c6, rfl, hc6, hC6⟩ := Kd.R_reads HO2.out
          have hl6 : (xs ++ [0]).length = n + 1 := by simp [Hn.out]
          refine ⟨⟨z + 1, by omega, ?_, HS2⟩, ?_⟩
          · rw [List.replicate_succ', ← List.append_assoc, Hxs.out]; exact HO2
          · simp only [lenOf, hl6]; have : zs l.length = (119 - l.length % 64) % 64 := rfl
            omega
        · have ht : ((n : Int) % 64 != 56) = false := by rw [bne_eq_false_iff_eq]; omega
          have hzz : z = zs l.length := by omega
          have Hxs := As.mk hxs
          have Hn := As.mk hnn
          have Hzz := As.mk hzz
          have Hn2 := As.mk hn
          have hnb : n ≤ 1099511628000 := by omega
          clear hxs hnn hzs hzz hn
          go_wp2
          clear ht
          go_loopw [5, 6] (fun v5 v6 wr => ∃ (k : Nat) (q : Int), (k, q) ∈ [(0, (56 : Int)), (1, 48), (2, 40), (3, 32), (4, 24), (5, 16), (6, 8), (7, 0), (8, -8)] ∧ v6 = .int .i64 q ∧ As (Own wr w.heap.size bs v5 (xs ++ (lenb l.length).take k)) ∧ As (Sm w bs (runs j l IV) wr)) (fun _ v6 _ => (intOf v6 + 8).toNat)
          case atStart => exact ⟨0, 56, by decide, rfl, by simpa using HO, HS⟩
          case round =>
            clear HO HS HC5
            obtain ⟨k, q, hk, rfl, HO, HS⟩ := hrel
            simp only [List.mem_cons, Prod.mk.injEq, List.not_mem_nil, or_false] at hk
            rcases hk with ⟨rfl, rfl⟩ | ⟨rfl, rfl⟩ | ⟨rfl, rfl⟩ | ⟨rfl, rfl⟩ | ⟨rfl, rfl⟩ | ⟨rfl, rfl⟩ | ⟨rfl, rfl⟩ | ⟨rfl, rfl⟩ | ⟨rfl, rfl⟩
            · go_wp2_with (first
                | ((with_reducible refine gate_builtin (b := .append) (xs := #[.tmp 40, .tmp 45]) rfl ?_); at_builtin; refine Kd.R_append (Kd.int .u8) (w0 := w) w.heap.size rfl (.tmp 40) (.tmp 45) 80 5 (.int .u8 0) 1 rfl Tryz.underlying80 info_u8 rfl (by decide) (by omega) _ (xs ++ (lenb l.length).take 0) _ [.int .u8 _] (fun k => bs < k) (fun _ => False) rfl rfl rfl (fun _ hk => hk.elim) (fun k hk => Nat.lt_of_lt_of_le HS.out.size hk) HO.out HS.out.below (below_size HS.out.below) (by simp [Hn.out, lenb]; omega) ?_; intro v2 w2 ho hb1 hg hat; have HO2 := As.mk ho; have HS2 := As.mk (HS.out.grown hg HO.out.1 hb1); clear ho hb1 hat hg)
                | fail)
              go_roundw
              case measure => simp [intOf]
              case rel =>
                refine ⟨1, 48, by decide, rfl, ⟨cast (congrArg (Own _ _ _ _) ?_) HO2.out⟩, HS2⟩
                rw [List.append_assoc]
                congr 1
                simp only [lenb, List.map_cons, List.map_nil, List.take_succ_cons, List.take_zero, List.nil_append, List.cons_append, List.cons.injEq, true_and, and_true, Nat.reducePow]
                omega
            · go_wp2_with (first
                | ((with_reducible refine gate_builtin (b := .append) (xs := #[.tmp 40, .tmp 45]) rfl ?_); at_builtin; refine Kd.R_append (Kd.int .u8) (w0 := w) w.heap.size rfl (.tmp 40) (.tmp 45) 80 5 (.int .u8 0) 1 rfl Tryz.underlying80 info_u8 rfl (by decide) (by omega) _ (xs ++ (lenb l.length).take 1) _ [.int .u8 _] (fun k => bs < k) (fun _ => False) rfl rfl rfl (fun _ hk => hk.elim) (fun k hk => Nat.lt_of_lt_of_le HS.out.size hk) HO.out HS.out.below (below_size HS.out.below) (by simp [Hn.out, lenb]; omega) ?_; intro v2 w2 ho hb1 hg hat; have HO2 := As.mk ho; have HS2 := As.mk (HS.out.grown hg HO.out.1 hb1); clear ho hb1 hat hg)
                | fail)
              go_roundw
              case measure => simp [intOf]
              case rel =>
                refine ⟨2, 40, by decide, rfl, ⟨cast (congrArg (Own _ _ _ _) ?_) HO2.out⟩, HS2⟩
                rw [List.append_assoc]
                congr 1
                simp only [lenb, List.map_cons, List.map_nil, List.take_succ_cons, List.take_zero, List.nil_append, List.cons_append, List.cons.injEq, true_and, and_true, Nat.reducePow]
                omega
            · go_wp2_with (first
                | ((with_reducible refine gate_builtin (b := .append) (xs := #[.tmp 40, .tmp 45]) rfl ?_); at_builtin; refine Kd.R_append (Kd.int .u8) (w0 := w) w.heap.size rfl (.tmp 40) (.tmp 45) 80 5 (.int .u8 0) 1 rfl Tryz.underlying80 info_u8 rfl (by decide) (by omega) _ (xs ++ (lenb l.length).take 2) _ [.int .u8 _] (fun k => bs < k) (fun _ => False) rfl rfl rfl (fun _ hk => hk.elim) (fun k hk => Nat.lt_of_lt_of_le HS.out.size hk) HO.out HS.out.below (below_size HS.out.below) (by simp [Hn.out, lenb]; omega) ?_; intro v2 w2 ho hb1 hg hat; have HO2 := As.mk ho; have HS2 := As.mk (HS.out.grown hg HO.out.1 hb1); clear ho hb1 hat hg)
                | fail)
              go_roundw
              case measure => simp [intOf]
              case rel =>
                refine ⟨3, 32, by decide, rfl, ⟨cast (congrArg (Own _ _ _ _) ?_) HO2.out⟩, HS2⟩
                rw [List.append_assoc]
                congr 1
                simp only [lenb, List.map_cons, List.map_nil, List.take_succ_cons, List.take_zero, List.nil_append, List.cons_append, List.cons.injEq, true_and, and_true, Nat.reducePow]
                omega
            · go_wp2_with (first
                | ((with_reducible refine gate_builtin (b := .append) (xs := #[.tmp 40, .tmp 45]) rfl ?_); at_builtin; refine Kd.R_append (Kd.int .u8) (w0 := w) w.heap.size rfl (.tmp 40) (.tmp 45) 80 5 (.int .u8 0) 1 rfl Tryz.underlying80 info_u8 rfl (by decide) (by omega) _ (xs ++ (lenb l.length).take 3) _ [.int .u8 _] (fun k => bs < k) (fun _ => False) rfl rfl rfl (fun _ hk => hk.elim) (fun k hk => Nat.lt_of_lt_of_le HS.out.size hk) HO.out HS.out.below (below_size HS.out.below) (by simp [Hn.out, lenb]; omega) ?_; intro v2 w2 ho hb1 hg hat; have HO2 := As.mk ho; have HS2 := As.mk (HS.out.grown hg HO.out.1 hb1); clear ho hb1 hat hg)
                | fail)
              go_roundw
              case measure => simp [intOf]
              case rel =>
                refine ⟨4, 24, by decide, rfl, ⟨cast (congrArg (Own _ _ _ _) ?_) HO2.out⟩, HS2⟩
                rw [List.append_assoc]
                congr 1
                simp only [lenb, List.map_cons, List.map_nil, List.take_succ_cons, List.take_zero, List.nil_append, List.cons_append, List.cons.injEq, true_and, and_true, Nat.reducePow]
                omega
            · go_wp2_with (first
                | ((with_reducible refine gate_builtin (b := .append) (xs := #[.tmp 40, .tmp 45]) rfl ?_); at_builtin; refine Kd.R_append (Kd.int .u8) (w0 := w) w.heap.size rfl (.tmp 40) (.tmp 45) 80 5 (.int .u8 0) 1 rfl Tryz.underlying80 info_u8 rfl (by decide) (by omega) _ (xs ++ (lenb l.length).take 4) _ [.int .u8 _] (fun k => bs < k) (fun _ => False) rfl rfl rfl (fun _ hk => hk.elim) (fun k hk => Nat.lt_of_lt_of_le HS.out.size hk) HO.out HS.out.below (below_size HS.out.below) (by simp [Hn.out, lenb]; omega) ?_; intro v2 w2 ho hb1 hg hat; have HO2 := As.mk ho; have HS2 := As.mk (HS.out.grown hg HO.out.1 hb1); clear ho hb1 hat hg)
                | fail)
              go_roundw
              case measure => simp [intOf]
              case rel =>
                refine ⟨5, 16, by decide, rfl, ⟨cast (congrArg (Own _ _ _ _) ?_) HO2.out⟩, HS2⟩
                rw [List.append_assoc]
                congr 1
                simp only [lenb, List.map_cons, List.map_nil, List.take_succ_cons, List.take_zero, List.nil_append, List.cons_append, List.cons.injEq, true_and, and_true, Nat.reducePow]
                omega
            · go_wp2_with (first
                | ((with_reducible refine gate_builtin (b := .append) (xs := #[.tmp 40, .tmp 45]) rfl ?_); at_builtin; refine Kd.R_append (Kd.int .u8) (w0 := w) w.heap.size rfl (.tmp 40) (.tmp 45) 80 5 (.int .u8 0) 1 rfl Tryz.underlying80 info_u8 rfl (by decide) (by omega) _ (xs ++ (lenb l.length).take 5) _ [.int .u8 _] (fun k => bs < k) (fun _ => False) rfl rfl rfl (fun _ hk => hk.elim) (fun k hk => Nat.lt_of_lt_of_le HS.out.size hk) HO.out HS.out.below (below_size HS.out.below) (by simp [Hn.out, lenb]; omega) ?_; intro v2 w2 ho hb1 hg hat; have HO2 := As.mk ho; have HS2 := As.mk (HS.out.grown hg HO.out.1 hb1); clear ho hb1 hat hg)
                | fail)
              go_roundw
              case measure => simp [intOf]
              case rel =>
                refine ⟨6, 8, by decide, rfl, ⟨cast (congrArg (Own _ _ _ _) ?_) HO2.out⟩, HS2⟩
                rw [List.append_assoc]
                congr 1
                simp only [lenb, List.map_cons, List.map_nil, List.take_succ_cons, List.take_zero, List.nil_append, List.cons_append, List.cons.injEq, true_and, and_true, Nat.reducePow]
                omega
            · go_wp2_with (first
                | ((with_reducible refine gate_builtin (b := .append) (xs := #[.tmp 40, .tmp 45]) rfl ?_); at_builtin; refine Kd.R_append (Kd.int .u8) (w0 := w) w.heap.size rfl (.tmp 40) (.tmp 45) 80 5 (.int .u8 0) 1 rfl Tryz.underlying80 info_u8 rfl (by decide) (by omega) _ (xs ++ (lenb l.length).take 6) _ [.int .u8 _] (fun k => bs < k) (fun _ => False) rfl rfl rfl (fun _ hk => hk.elim) (fun k hk => Nat.lt_of_lt_of_le HS.out.size hk) HO.out HS.out.below (below_size HS.out.below) (by simp [Hn.out, lenb]; omega) ?_; intro v2 w2 ho hb1 hg hat; have HO2 := As.mk ho; have HS2 := As.mk (HS.out.grown hg HO.out.1 hb1); clear ho hb1 hat hg)
                | fail)
              go_roundw
              case measure => simp [intOf]
              case rel =>
                refine ⟨7, 0, by decide, rfl, ⟨cast (congrArg (Own _ _ _ _) ?_) HO2.out⟩, HS2⟩
                rw [List.append_assoc]
                congr 1
                simp only [lenb, List.map_cons, List.map_nil, List.take_succ_cons, List.take_zero, List.nil_append, List.cons_append, List.cons.injEq, true_and, and_true, Nat.reducePow]
                omega
            · go_wp2_with (first
                | ((with_reducible refine gate_builtin (b := .append) (xs := #[.tmp 40, .tmp 45]) rfl ?_); at_builtin; refine Kd.R_append (Kd.int .u8) (w0 := w) w.heap.size rfl (.tmp 40) (.tmp 45) 80 5 (.int .u8 0) 1 rfl Tryz.underlying80 info_u8 rfl (by decide) (by omega) _ (xs ++ (lenb l.length).take 7) _ [.int .u8 _] (fun k => bs < k) (fun _ => False) rfl rfl rfl (fun _ hk => hk.elim) (fun k hk => Nat.lt_of_lt_of_le HS.out.size hk) HO.out HS.out.below (below_size HS.out.below) (by simp [Hn.out, lenb]; omega) ?_; intro v2 w2 ho hb1 hg hat; have HO2 := As.mk ho; have HS2 := As.mk (HS.out.grown hg HO.out.1 hb1); clear ho hb1 hat hg)
                | fail)
              go_roundw
              case measure => simp [intOf]
              case rel =>
                refine ⟨8, -8, by decide, rfl, ⟨cast (congrArg (Own _ _ _ _) ?_) HO2.out⟩, HS2⟩
                rw [List.append_assoc]
                congr 1
                simp only [lenb, List.map_cons, List.map_nil, List.take_succ_cons, List.take_zero, List.nil_append, List.cons_append, List.cons.injEq, true_and, and_true, Nat.reducePow]
                omega
            · have h8 : (lenb l.length).take 8 = lenb l.length := rfl
              rw [h8] at HO
              have hbo := Kd.R_bound HO.out
              obtain ⟨A6, c6, rfl, hc6, hC6⟩ := Kd.R_reads HO.out
              have hne6 : ∀ ad, A6 = some ad → bs < ad.block ∧ ad.block < wr.heap.size := by
                rintro ad rfl
                have := hbo.1 ad.block (by simp [Value.ownBlock])
                exact ⟨this.1, this.2.2.1⟩
              have hpd : xs ++ lenb l.length = padded r l.length := by rw [← Hxs.out, Hzz.out]; rfl
              rw [hpd] at hC6 hc6 HO
              rw [hpd]
              have hpl : (padded r l.length).length = n + 8 := by rw [← hpd]; simp [Hn.out, lenb]
              have hp64 : (padded r l.length).length % 64 = 0 := by
                have h1 := Hn2.out
                have h2 := Hzz.out
                have h3 : zs l.length = (119 - l.length % 64) % 64 := rfl
                omega
              have hp8 : ∀ x ∈ padded r l.length, 0 ≤ x ∧ x < 256 := by
                intro x hx
                simp only [padded, lenb, List.mem_append, List.mem_cons, List.not_mem_nil, or_false, List.mem_replicate, List.map_cons, List.map_nil] at hx
                rcases hx with ((hx | hx) | hx) | hx
                · exact H8.out x (by rw [Hr.out] at hx; exact List.mem_of_mem_drop hx)
                · omega
                · omega
                · omega
              generalize hpp : padded r l.length = p at *
              have HP := As.mk hpp
              have HPL := As.mk hpl
              have HP64 := As.mk hp64
              have HP8 := As.mk hp8
              have HC6 := As.mk hC6
              have HE6 := As.mk hne6
              have hpb : p.length ≤ 1099511628100 := by omega
              clear hpp hpl hp64 hp8 hC6 hne6 hbo HO h8 hpd
              go_wp2
              have hlw := HS.out.size
              obtain ⟨wo, hwo⟩ : ∃ wo : World, wo = wr := ⟨_, rfl⟩
              subst hwo
              go_loopw [5] (fun v5 wx => ∃ (k : Nat) (A7 : Option Addr) (c7 : Nat) (q : List Int), v5 = .slice A7 q.length c7 ∧ q.length ≤ c7 ∧ q.length + 64 * k = p.length ∧ As (q = p.drop (64 * k)) ∧ As (∀ ad, A7 = some ad → bs < ad.block ∧ ad.block < wo.heap.size) ∧ As ((Kd.int .u8).C wo A7 q.length q) ∧ As (But wo.heap.size bs wo wx) ∧ As (Sm w bs (runs k p (runs j l IV)) wx)) (fun v5 _ => lenOf v5)
              case atStart => exact ⟨0, A6, c6, p, rfl, hc6, by omega, ⟨by simp⟩, HE6, HC6, ⟨But.refl _ _ _⟩, HS⟩
              case round =>
                clear HE6 HC6 HS hc6
                obtain ⟨k, A7, c7, q, rfl, hc7, hk, Hq, HE7, HC7, HB7, HS⟩ := hrel
                by_cases hq : 0 < q.length
                · have hq64 : 64 ≤ q.length := by
                    have := HP64.out
                    omega
                  have ht : (q.take 64).length = 64 := by simp; omega
                  have hd : (q.drop 64).length = q.length - 64 := by simp
                  have hC64 := Kd.C_take HC7.out hq64
                  rw [ht] at hC64
                  have hCd := Kd.C_drop HC7.out hq64 hc7
                  rw [hd] at hCd
                  have HC64 := As.mk (C_but hC64 HB7.out (fun ad h => ⟨by have := HE7.out ad h; omega, (HE7.out ad h).2⟩))
                  have HCd := As.mk hCd
                  clear hC64 hCd ht hd
                  go_wp2_with (fail)
                  refine (take_any bs c7 A7 (runs k p (runs j l IV)) (q.take 64) wr (runs_len _ _ _ (runs_len _ _ _ IV_len)) (by simp; omega) (fun x hx => HP8.out x ?_) HS.out.sums HC64.out).mono ?_
                  · have := List.mem_of_mem_take hx
                    rw [Hq.out] at this
                    exact List.mem_of_mem_drop this
                  rintro e w2 ⟨rfl, hS2, hb2⟩
                  have hlt := HS.out.box.lt
                  have hs2 := below_size HS.out.below
                  have hbs' := HN.out
                  have hszx := HB7.out.size
                  replace HS : As (Sm w bs (runs (k + 1) p (runs j l IV)) w2) := ⟨⟨by rw [runs_snoc, ← Hq.out]; exact hS2, HS.out.box.but hlt (by omega) hb2, HS.out.below.trans (hb2.below (by omega) (by omega)), hbs'⟩⟩
                  replace HB7 : As (But wo.heap.size bs wo w2) := ⟨HB7.out.trans (hb2.mono hszx)⟩
                  clear hS2 hb2 hlt hs2 hbs' hszx
                  by_cases hcc : c7 = 64
                  · subst hcc
                    have hr : q.length = 64 := by omega
                    go_wp2_with (fail)
                    refine ⟨⟨k + 1, A7, 0, q.drop 64, by simp [hr], by simp [hr], by simp [hr]; omega, ⟨by rw [Hq.out, List.drop_drop]; rfl⟩, HE7, ?_, HB7, HS⟩, by simp [lenOf, hr]⟩
                    have h1 : (Kd.int .u8).C wo A7 (q.length - 64) (q.drop 64) := by
                      have := HCd.out
                      simp only [if_true] at this
                      exact this
                    exact ⟨by rw [List.length_drop]; exact h1⟩
                  · obtain ⟨ad, rfl, _⟩ := Kd.at_int HC7.out (0 : Int) (by omega) (by omega)
                    go_wp2_with (fail)
                    refine ⟨⟨k + 1, some ⟨ad.block, ad.off + 64, none⟩, c7 - 64, q.drop 64, by simp, by simp; omega, by simp; omega, ⟨by rw [Hq.out, List.drop_drop]; rfl⟩, ⟨fun ad' h => by cases h; exact HE7.out ad rfl⟩, ?_, HB7, HS⟩, by simp [lenOf]; omega⟩
                    have := HCd.out
                    rw [if_neg hcc] at this
                    refine ⟨?_⟩
                    rw [List.length_drop]; exact this
                · have hq0 : q.length = 0 := by omega
                  have hkk : runs k p (runs j l IV) = runs (p.length / 64) p (runs j l IV) := by rw [show k = p.length / 64 by omega]
                  rw [hkk] at HS
                  obtain ⟨a, b, c, d, e, f, g, h, hH⟩ : ∃ a b c d e f g h, runs (p.length / 64) p (runs j l IV) = [a, b, c, d, e, f, g, h] := by
                    have := runs_len (p.length / 64) p _ (runs_len j l _ IV_len)
                    match runs (p.length / 64) p (runs j l IV), this with
                    | [a, b, c, d, e, f, g, h], _ => exact ⟨a, b, c, d, e, f, g, h, rfl⟩
                  rw [hH] at HS
                  have HHH := As.mk hH
                  have c0 := HS.out.sums.cell (i := 0) (v := V a) (by simp)
                  have c1 := HS.out.sums.cell (i := 1) (v := V b) (by simp)
                  have c2 := HS.out.sums.cell (i := 2) (v := V c) (by simp)
                  have c3 := HS.out.sums.cell (i := 3) (v := V d) (by simp)
                  have c4 := HS.out.sums.cell (i := 4) (v := V e) (by simp)
                  have c5 := HS.out.sums.cell (i := 5) (v := V f) (by simp)
                  have c6 := HS.out.sums.cell (i := 6) (v := V g) (by simp)
                  have c7 := HS.out.sums.cell (i := 7) (v := V h) (by simp)
                  unfold V at c0 c1 c2 c3 c4 c5 c6 c7
                  clear hH hkk
                  have hbl := HS.out.size
                  go_wp2_with (fail)
                  have hG : As (Row (wr.alloc (.cells Z32 101)) wr.heap.size 101 ((outp [a, b, c, d, e, f, g, h] 0).map (Value.int .u8))) := ⟨Row.new wr (List.replicate 32 (.int .u8 0)) 101⟩
                  have hBX : As (Row (wr.alloc (.cells Z32 101)) w.heap.size 101 (List.replicate 32 (.int .u8 0))) := ⟨HS.out.box.alloc _⟩
                  have hBL : As (Below w.heap.size w (wr.alloc (.cells Z32 101))) := ⟨HS.out.below.alloc (below_size HS.out.below) _⟩
                  have hg : w.heap.size < wr.heap.size := by have := HN.out; omega
                  clear c0 c1 c2 c3 c4 c5 c6 c7 hbl
                  obtain ⟨wo2, hwo⟩ : ∃ wo : World, wo = wr := ⟨_, rfl⟩
                  subst hwo
                  go_loopw [60] (fun v60 wr => ∃ i : Nat, i ≤ 8 ∧ v60 = .int .i64 i ∧ As (Row wr wo2.heap.size 101 ((outp [a, b, c, d, e, f, g, h] i).map (Value.int .u8))) ∧ As (Row wr w.heap.size 101 (List.replicate 32 (.int .u8 0))) ∧ As (Below w.heap.size w wr)) (fun v60 _ => 8 - (intOf v60).toNat)
                  case atStart => exact ⟨0, by omega, rfl, hG, hBX, hBL⟩
                  case round =>
                    clear hG hBX hBL HS HB7 HC7 HE7
                    obtain ⟨i, hi, rfl, hG, hBX, hBL⟩ := hrel
                    have fk : ∀ (o : Nat) (s : Option Nat), wr.frozen? ⟨wo2.heap.size, o, s⟩ = false := fun o s => hG.out.free o s
                    rcases (show i = 0 ∨ i = 1 ∨ i = 2 ∨ i = 3 ∨ i = 4 ∨ i = 5 ∨ i = 6 ∨ i = 7 ∨ i = 8 by omega) with rfl | rfl | rfl | rfl | rfl | rfl | rfl | rfl | rfl
                    · have k0 := hG.out.cell (i := 0) (v := .int .u8 0) (by rfl)
                      have k1 := hG.out.cell (i := 1) (v := .int .u8 0) (by rfl)
                      have k2 := hG.out.cell (i := 2) (v := .int .u8 0) (by rfl)
                      have k3 := hG.out.cell (i := 3) (v := .int .u8 0) (by rfl)
                      have ix := idx0 (.int .u32 (u a)) (.int .u32 (u b)) (.int .u32 (u c)) (.int .u32 (u d)) (.int .u32 (u e)) (.int .u32 (u f)) (.int .u32 (u g)) (.int .u32 (u h))
                      have ub := u_lt a
                      have ub0 := u_nonneg a
                      go_wp2
                      refine ⟨⟨1, by omega, rfl, ⟨?_⟩, ⟨(((hBX.out.set_ne (by simp; omega) _).set_ne (by simp; omega) _).set_ne (by simp; omega) _).set_ne (by simp; omega) _⟩, ⟨(((hBL.out.setCell (by simp; omega) _).setCell (by simp; omega) _).setCell (by simp; omega) _).setCell (by simp; omega) _⟩⟩, by simp [intOf]⟩
                      rw [show u a / 16777216 = u a / 16777216 % 256 from by omega]
                      exact (((hG.out.set 0 _).set 1 _).set 2 _).set 3 _
                    · have k0 := hG.out.cell (i := 4) (v := .int .u8 0) (by rfl)
                      have k1 := hG.out.cell (i := 5) (v := .int .u8 0) (by rfl)
                      have k2 := hG.out.cell (i := 6) (v := .int .u8 0) (by rfl)
                      have k3 := hG.out.cell (i := 7) (v := .int .u8 0) (by rfl)
                      have ix := idx1 (.int .u32 (u a)) (.int .u32 (u b)) (.int .u32 (u c)) (.int .u32 (u d)) (.int .u32 (u e)) (.int .u32 (u f)) (.int .u32 (u g)) (.int .u32 (u h))
                      have ub := u_lt b
                      have ub0 := u_nonneg b
                      go_wp2
                      refine ⟨⟨2, by omega, rfl, ⟨?_⟩, ⟨(((hBX.out.set_ne (by simp; omega) _).set_ne (by simp; omega) _).set_ne (by simp; omega) _).set_ne (by simp; omega) _⟩, ⟨(((hBL.out.setCell (by simp; omega) _).setCell (by simp; omega) _).setCell (by simp; omega) _).setCell (by simp; omega) _⟩⟩, by simp [intOf]⟩
                      rw [show u b / 16777216 = u b / 16777216 % 256 from by omega]
                      exact (((hG.out.set 4 _).set 5 _).set 6 _).set 7 _
                    · have k0 := hG.out.cell (i := 8) (v := .int .u8 0) (by rfl)
                      have k1 := hG.out.cell (i := 9) (v := .int .u8 0) (by rfl)
                      have k2 := hG.out.cell (i := 10) (v := .int .u8 0) (by rfl)
                      have k3 := hG.out.cell (i := 11) (v := .int .u8 0) (by rfl)
                      have ix := idx2 (.int .u32 (u a)) (.int .u32 (u b)) (.int .u32 (u c)) (.int .u32 (u d)) (.int .u32 (u e)) (.int .u32 (u f)) (.int .u32 (u g)) (.int .u32 (u h))
                      have ub := u_lt c
                      have ub0 := u_nonneg c
                      go_wp2
                      refine ⟨⟨3, by omega, rfl, ⟨?_⟩, ⟨(((hBX.out.set_ne (by simp; omega) _).set_ne (by simp; omega) _).set_ne (by simp; omega) _).set_ne (by simp; omega) _⟩, ⟨(((hBL.out.setCell (by simp; omega) _).setCell (by simp; omega) _).setCell (by simp; omega) _).setCell (by simp; omega) _⟩⟩, by simp [intOf]⟩
                      rw [show u c / 16777216 = u c / 16777216 % 256 from by omega]
                      exact (((hG.out.set 8 _).set 9 _).set 10 _).set 11 _
                    · have k0 := hG.out.cell (i := 12) (v := .int .u8 0) (by rfl)
                      have k1 := hG.out.cell (i := 13) (v := .int .u8 0) (by rfl)
                      have k2 := hG.out.cell (i := 14) (v := .int .u8 0) (by rfl)
                      have k3 := hG.out.cell (i := 15) (v := .int .u8 0) (by rfl)
                      have ix := idx3 (.int .u32 (u a)) (.int .u32 (u b)) (.int .u32 (u c)) (.int .u32 (u d)) (.int .u32 (u e)) (.int .u32 (u f)) (.int .u32 (u g)) (.int .u32 (u h))
                      have ub := u_lt d
                      have ub0 := u_nonneg d
                      go_wp2
                      refine ⟨⟨4, by omega, rfl, ⟨?_⟩, ⟨(((hBX.out.set_ne (by simp; omega) _).set_ne (by simp; omega) _).set_ne (by simp; omega) _).set_ne (by simp; omega) _⟩, ⟨(((hBL.out.setCell (by simp; omega) _).setCell (by simp; omega) _).setCell (by simp; omega) _).setCell (by simp; omega) _⟩⟩, by simp [intOf]⟩
                      rw [show u d / 16777216 = u d / 16777216 % 256 from by omega]
                      exact (((hG.out.set 12 _).set 13 _).set 14 _).set 15 _
                    · have k0 := hG.out.cell (i := 16) (v := .int .u8 0) (by rfl)
                      have k1 := hG.out.cell (i := 17) (v := .int .u8 0) (by rfl)
                      have k2 := hG.out.cell (i := 18) (v := .int .u8 0) (by rfl)
                      have k3 := hG.out.cell (i := 19) (v := .int .u8 0) (by rfl)
                      have ix := idx4 (.int .u32 (u a)) (.int .u32 (u b)) (.int .u32 (u c)) (.int .u32 (u d)) (.int .u32 (u e)) (.int .u32 (u f)) (.int .u32 (u g)) (.int .u32 (u h))
                      have ub := u_lt e
                      have ub0 := u_nonneg e
                      go_wp2
                      refine ⟨⟨5, by omega, rfl, ⟨?_⟩, ⟨(((hBX.out.set_ne (by simp; omega) _).set_ne (by simp; omega) _).set_ne (by simp; omega) _).set_ne (by simp; omega) _⟩, ⟨(((hBL.out.setCell (by simp; omega) _).setCell (by simp; omega) _).setCell (by simp; omega) _).setCell (by simp; omega) _⟩⟩, by simp [intOf]⟩
                      rw [show u e / 16777216 = u e / 16777216 % 256 from by omega]
                      exact (((hG.out.set 16 _).set 17 _).set 18 _).set 19 _
                    · have k0 := hG.out.cell (i := 20) (v := .int .u8 0) (by rfl)
                      have k1 := hG.out.cell (i := 21) (v := .int .u8 0) (by rfl)
                      have k2 := hG.out.cell (i := 22) (v := .int .u8 0) (by rfl)
                      have k3 := hG.out.cell (i := 23) (v := .int .u8 0) (by rfl)
                      have ix := idx5 (.int .u32 (u a)) (.int .u32 (u b)) (.int .u32 (u c)) (.int .u32 (u d)) (.int .u32 (u e)) (.int .u32 (u f)) (.int .u32 (u g)) (.int .u32 (u h))
                      have ub := u_lt f
                      have ub0 := u_nonneg f
                      go_wp2
                      refine ⟨⟨6, by omega, rfl, ⟨?_⟩, ⟨(((hBX.out.set_ne (by simp; omega) _).set_ne (by simp; omega) _).set_ne (by simp; omega) _).set_ne (by simp; omega) _⟩, ⟨(((hBL.out.setCell (by simp; omega) _).setCell (by simp; omega) _).setCell (by simp; omega) _).setCell (by simp; omega) _⟩⟩, by simp [intOf]⟩
                      rw [show u f / 16777216 = u f / 16777216 % 256 from by omega]
                      exact (((hG.out.set 20 _).set 21 _).set 22 _).set 23 _
                    · have k0 := hG.out.cell (i := 24) (v := .int .u8 0) (by rfl)
                      have k1 := hG.out.cell (i := 25) (v := .int .u8 0) (by rfl)
                      have k2 := hG.out.cell (i := 26) (v := .int .u8 0) (by rfl)
                      have k3 := hG.out.cell (i := 27) (v := .int .u8 0) (by rfl)
                      have ix := idx6 (.int .u32 (u a)) (.int .u32 (u b)) (.int .u32 (u c)) (.int .u32 (u d)) (.int .u32 (u e)) (.int .u32 (u f)) (.int .u32 (u g)) (.int .u32 (u h))
                      have ub := u_lt g
                      have ub0 := u_nonneg g
                      go_wp2
                      refine ⟨⟨7, by omega, rfl, ⟨?_⟩, ⟨(((hBX.out.set_ne (by simp; omega) _).set_ne (by simp; omega) _).set_ne (by simp; omega) _).set_ne (by simp; omega) _⟩, ⟨(((hBL.out.setCell (by simp; omega) _).setCell (by simp; omega) _).setCell (by simp; omega) _).setCell (by simp; omega) _⟩⟩, by simp [intOf]⟩
                      rw [show u g / 16777216 = u g / 16777216 % 256 from by omega]
                      exact (((hG.out.set 24 _).set 25 _).set 26 _).set 27 _
                    · have k0 := hG.out.cell (i := 28) (v := .int .u8 0) (by rfl)
                      have k1 := hG.out.cell (i := 29) (v := .int .u8 0) (by rfl)
                      have k2 := hG.out.cell (i := 30) (v := .int .u8 0) (by rfl)
                      have k3 := hG.out.cell (i := 31) (v := .int .u8 0) (by rfl)
                      have ix := idx7 (.int .u32 (u a)) (.int .u32 (u b)) (.int .u32 (u c)) (.int .u32 (u d)) (.int .u32 (u e)) (.int .u32 (u f)) (.int .u32 (u g)) (.int .u32 (u h))
                      have ub := u_lt h
                      have ub0 := u_nonneg h
                      go_wp2
                      refine ⟨⟨8, by omega, rfl, ⟨?_⟩, ⟨(((hBX.out.set_ne (by simp; omega) _).set_ne (by simp; omega) _).set_ne (by simp; omega) _).set_ne (by simp; omega) _⟩, ⟨(((hBL.out.setCell (by simp; omega) _).setCell (by simp; omega) _).setCell (by simp; omega) _).setCell (by simp; omega) _⟩⟩, by simp [intOf]⟩
                      rw [show u h / 16777216 = u h / 16777216 % 256 from by omega]
                      exact (((hG.out.set 28 _).set 29 _).set 30 _).set 31 _
                    · go_wp2_with (first
                        | (refine wpList_load_row rfl 101 (.tmp 7) rfl wo2.heap.size rfl 101 _ (0, 0) _ hG.out Tryz.underlying101 rfl (by kernel_rfl) ?_)
                        | (refine wpList_store_row rfl 101 (.tmp 2) (.tmp 91) rfl w.heap.size ((outp [a, b, c, d, e, f, g, h] 8).map (Value.int .u8)).toArray rfl rfl 101 _ hBX.out (by rw [info_32]; simp [outp_len]) (by simp [outp_len]) (all_u8 _) ?_)
                        | fail)
                      refine bodyPost_ret (v := .agg ((outp [a, b, c, d, e, f, g, h] 8).map (Value.int .u8)).toArray) (results_cell_row rfl _ _ w.heap.size 101 _ (0, 0) _ rfl (setRow_heap _ _ _ _ _ _ hBX.out) Tryz.underlying101 rfl (by rw [info_32]; simp [outp_len])) rfl ⟨?_, below_setRow hBL.out (Nat.le_refl _) _⟩
                      rw [shaL, ← HHH.out, ← HP.out, Hr.out, show j = l.length / 64 by omega]
end Go.Proofs.YtehmhfbfgniekaaGreatDoor.Dg
namespace Go.Proofs.YtehmhfbfgniekaaGreatDoor.Dg
open Go.RowKit Blk Go.Proofs.YtehmhfbfgniekaaGreatDoorW.PrintWords Go.Proofs.YtehmhfbfgniekaaGreatDoorW.PrintLast Go.Proofs.YtehmhfbfgniekaaGreatDoorW.PrintMore
set_option linter.unusedVariables false
set_option linter.unusedSimpArgs false
def hexd (n : Int) : Int := if n < 10 then 48 + n else 87 + n
def nameL (r : List Int) : List Int := r.flatMap fun c => [hexd (c / 16), hexd (c % 16)]
theorem index_32 (r : List Int) (i : Nat) (hr : r.length = 32) (hi : i < 32) (w : World) :
    (Instr.index 101 (.agg (r.map (Value.int .u8)).toArray) (.int .i64 (i : Int))).run Tryz.prog w = .ok (.int .u8 (r.getD i 0)) w := by
  have hs : (Tryz.prog.info? 5).map (·.size) = some 1 := by kernel_rfl
  obtain ⟨inf, h1, h2⟩ := Option.map_eq_some_iff.1 hs
  have h3 : (i : Int) < 32 := by omega
  simp [Instr.index, asIntOf, Tryz.underlying101, h3, sizeOf, typeInfo, h1, h2, part]
  have h4 : i < r.length := by omega
  rw [if_pos hi]
  simp [h4]
theorem C_new2 (W : World) (x y : Int) : (Kd.int .u8).C (W.alloc (.cells #[.int .u8 x, .int .u8 y] 5)) (some ⟨W.heap.size, 0, none⟩) 2 [x, y] := by
  refine Kd.C_of_reads (enc := Value.int .u8) (d := (0 : Int)) ⟨rfl, by decide, fun _ => ⟨_, rfl, fun j hj => ?_⟩⟩
  have h := Row.new W [.int .u8 x, .int .u8 y] 5
  rcases (show j = 0 ∨ j = 1 by omega) with rfl | rfl
  · exact h.cell (i := 0) rfl
  · exact h.cell (i := 1) rfl
theorem outp_len8 (H : List W) (h : H.length = 8) : (outp H 8).length = 32 := by
  match H, h with
  | [a, b, c, d, e, f, g, h], _ => rfl
theorem shaL_len (l : List Int) : (shaL l).length = 32 := outp_len8 _ (runs_len _ _ _ (runs_len _ _ _ IV_len))
theorem nameL_len (r : List Int) : (nameL r).length = 2 * r.length := by
  induction r with
  | nil => rfl
  | cons a r ih => simp [nameL] at ih ⊢; omega
theorem shaL_8 (l : List Int) : ∀ x ∈ shaL l, 0 ≤ x ∧ x < 256 := by
  unfold shaL outp
  intro x hx
  simp only [List.mem_append, List.mem_flatMap, be, List.mem_cons, List.not_mem_nil, or_false, List.mem_replicate] at hx
  rcases hx with ⟨a, _, h⟩ | h <;> omega
theorem digit_at (n : Int) (h0 : 0 ≤ n) (h1 : n < 16) (w : World) :
    (Instr.index 9 (.string ⟨#[48, 49, 50, 51, 52, 53, 54, 55, 56, 57, 97, 98, 99, 100, 101, 102]⟩) (.int .u8 n)).run Tryz.prog w = .ok (.int .u8 (hexd n)) w := by
  rcases (show n = 0 ∨ n = 1 ∨ n = 2 ∨ n = 3 ∨ n = 4 ∨ n = 5 ∨ n = 6 ∨ n = 7 ∨ n = 8 ∨ n = 9 ∨ n = 10 ∨ n = 11 ∨ n = 12 ∨ n = 13 ∨ n = 14 ∨ n = 15 by omega) with rfl | rfl | rfl | rfl | rfl | rfl | rfl | rfl | rfl | rfl | rfl | rfl | rfl | rfl | rfl | rfl <;> kernel_rfl
theorem nameL_snoc (r : List Int) (i : Nat) (h : i < r.length) : nameL (r.take (i + 1)) = nameL (r.take i) ++ [hexd (r.getD i 0 / 16), hexd (r.getD i 0 % 16)] := by
  rw [List.take_succ_eq_append_getElem h, nameL, List.flatMap_append]
  simp [nameL, h]
set_option maxHeartbeats 4000000 in
theorem name_calls (A : Option Addr) (c : Nat) (l : List Int) (w : World) (hC : (Kd.int .u8).C w A l.length l) (hc : l.length ≤ c) (hl : l.length ≤ 1099511627776) (h8 : ∀ x ∈ l, 0 ≤ x ∧ x < 256) :
    Calls Tryz.prog 57 #[.slice A l.length c] w fun e w' => e = .returned (.string (strOfNums (nameL (shaL l)))) ∧ Below w.heap.size w w' := by
  go_enter Tryz.func57, Tryz.ntmps57
  go_wp2_with (fail)
  refine (sum_calls A c l _ hC hc hl h8).mono ?_
  rintro e w1 ⟨rfl, hb⟩
  go_wp2_with (fail)
  have HB := As.mk hb
  clear hb
  have hlen := shaL_len l
  have h8s := shaL_8 l
  obtain ⟨r, hS⟩ : ∃ r, shaL l = r := ⟨_, rfl⟩
  rw [hS]
  rw [hS] at hlen h8s
  have HL := As.mk hlen
  have H8 := As.mk h8s
  have HSS := As.mk hS
  clear hlen h8s hS
  go_loopw [3, 8] (fun v3 v8 wr => ∃ i : Nat, i ≤ 32 ∧ v8 = .int .i64 i ∧ As ((Kd.int .u8).R 5 wr w.heap.size (fun _ => True) v3 (nameL (r.take i))) ∧ As (Below w.heap.size w wr)) (fun _ v8 _ => 32 - (intOf v8).toNat)
  case atStart => exact ⟨0, by omega, rfl, ⟨Kd.R_nil _ _ _ _ _⟩, HB⟩
  case round =>
    clear HB
    obtain ⟨i, hi, rfl, HO, HB⟩ := hrel
    by_cases hlt : i < 32
    · have hix := fun w => index_32 r i HL.out hlt w
      obtain ⟨x, hx⟩ : ∃ x, r.getD i 0 = x := ⟨_, rfl⟩
      have hx8 : 0 ≤ x ∧ x < 256 := by
        rw [← hx]
        refine H8.out _ ?_
        have : i < r.length := by rw [HL.out]; exact hlt
        simp [this]
      rw [hx] at hix
      have hx0 := hx8.1
      have hx1 := hx8.2
      have q1 := fun w => digit_at (x / 16) (by omega) (by omega) w
      have q2 := fun w => digit_at (x % 16) (by omega) (by omega) w
      generalize hy1 : hexd (x / 16) = y1 at *
      generalize hy2 : hexd (x % 16) = y2 at *
      have HY := As.mk (And.intro hy1 hy2)
      clear hy1 hy2
      have HX := As.mk hx
      clear hx hx8
      go_wp2
      refine QTail.wp_region_pre 1 7 (by kernel_rfl) (by kernel_rfl) (by intro _ _ d _ _ h; cases d <;> exact h) ?_
      simp only [List.take_succ_cons, List.take_zero, List.drop_succ_cons, List.drop_zero, QTail.pre]
      go_simp
      repeat (go_big_quiet_step (fail))
      refine wpQuiet_nil ?_
      intro nq
      have HO1 : As ((Kd.int .u8).R 5 ((wr.drewN nq).alloc (.cells #[.int .u8 y1, .int .u8 y2] 5)) w.heap.size (fun _ => True) u3 (nameL (r.take i))) := ⟨Kd.R_alloc (Kd.R_drewN HO.out nq) _⟩
      have HB1 : As (Below w.heap.size w ((wr.drewN nq).alloc (.cells #[.int .u8 y1, .int .u8 y2] 5))) := ⟨(Blk.pw_drewN HB.out nq).alloc (below_size (Blk.pw_drewN HB.out nq)) _⟩
      have HC := As.mk (C_new2 (wr.drewN nq) y1 y2)
      go_wp2_with (first
        | ((with_reducible refine gate_builtin (b := .append) (xs := #[.tmp 11, .tmp 18]) rfl ?_); at_builtin; refine Kd.R_append_rows (Kd.int .u8) (Rr := (Kd.int .u8).K ((wr.drewN nq).alloc (.cells #[.int .u8 y1, .int .u8 y2] 5))) (w0 := w) w.heap.size rfl (.tmp 11) (.tmp 18) 80 5 (.int .u8 0) 1 rfl Tryz.underlying80 info_u8 rfl (by decide) (by omega) _ (nameL (r.take i)) [y1, y2] (some ⟨wr.heap.size, 0, none⟩) 2 2 (fun _ => True) (fun _ => False) rfl rfl HO1.out HC.out (fun _ _ h => h) (fun _ hk => hk.elim) (fun _ _ => trivial) HB1.out (below_size HB1.out) (by rw [nameL_len]; simp; omega) ?_; intro v1 w1 ho hb1 hg hat; have HO2 := As.mk ho; have HB2 := As.mk hb1; clear ho hb1 hat hg)
        | fail)
      refine ⟨⟨i + 1, by omega, by go_num, ⟨?_⟩, HB2⟩, by simp [intOf]; omega⟩
      rw [nameL_snoc r i (by rw [HL.out]; exact hlt), HX.out, HY.out.1, HY.out.2]
      exact HO2.out
    · have : i = 32 := by omega
      subst this
      obtain ⟨A1, c1, rfl, hc1, hC1⟩ := Kd.R_reads HO.out
      have hcv := Kd.C_string (P := Tryz.prog) (A := A1) (c := c1) Tryz.underlying80 Tryz.underlying5 Tryz.underlying9 hC1
      clear hC1
      go_wp2
      go_ret
      refine ⟨?_, HB.out⟩
      rw [HSS.out]
      have ht : r.take 32 = r := List.take_of_length_le (by rw [HL.out]; exact Nat.le_refl _)
      rw [ht]
      rfl
end Go.Proofs.YtehmhfbfgniekaaGreatDoor.Dg
namespace Go.Proofs.YtehmhfbfgniekaaGreatDoor.Dg
open Go.RowKit Blk Go.Proofs.YtehmhfbfgniekaaGreatDoorW.PrintWords Go.Proofs.YtehmhfbfgniekaaGreatDoorW.PrintLast Go.Proofs.YtehmhfbfgniekaaGreatDoorW.PrintMore
set_option linter.unusedVariables false
set_option linter.unusedSimpArgs false
end Go.Proofs.YtehmhfbfgniekaaGreatDoor.Dg

namespace Go.Proofs.YtehmhfbfgniekaaGreatDoor.Rl
open Go.RowKit Go.Proofs.YtehmhfbfgniekaaGreatDoorW.PrintWords Go.Proofs.YtehmhfbfgniekaaGreatDoorW.PrintLast Go.Proofs.YtehmhfbfgniekaaGreatDoorW.PrintMore
set_option linter.unusedVariables false
set_option linter.unusedSimpArgs false
def r02_three.f (a0 : Int) (a1 : Int) (a2 : Int) : Option (Int) := some (Go.bits .xor .u32 (Go.bits .xor .u32 a0 a1) a2)
set_option maxHeartbeats 8000000 in
set_option maxRecDepth 100000 in
theorem r02_three.calls (a0 : Int) (a1 : Int) (a2 : Int) (r : Int) (w : World) (h : r02_three.f a0 a1 a2 = some r) :
    Calls Tryz.prog 106 #[.int .u32 a0, .int .u32 a1, .int .u32 a2] w fun e w' => e = .returned (.int .u32 r) ∧ Drawn0 w w' := by
  have H : (some (Go.bits .xor .u32 (Go.bits .xor .u32 a0 a1) a2)) = some r := h
  clear h
  obtain rfl := Option.some.inj H
  go_enter Tryz.func106, Tryz.ntmps106
  go_wp2
  go_ret
  exact ⟨sd_, dr_⟩
def r02_digit.f (a0 : Int) : Option (Int) := if a0 < 10 then (some ((48 + a0) % 256)) else (some ((((97 + a0) % 256) - 10) % 256))
set_option maxHeartbeats 8000000 in
set_option maxRecDepth 100000 in
theorem r02_digit.calls (a0 : Int) (r : Int) (w : World) (h : r02_digit.f a0 = some r) :
    Calls Tryz.prog 61 #[.int .u8 a0] w fun e w' => e = .returned (.int .u8 r) ∧ Drawn0 w w' := by
  have H : (if a0 < 10 then (some ((48 + a0) % 256)) else (some ((((97 + a0) % 256) - 10) % 256))) = some r := h
  clear h
  by_cases c2 : a0 < 10
  · rw [if_pos c2] at H
    have c2b0 : decide (a0 < 10) = true := decide_eq_true c2
    clear c2
    obtain rfl := Option.some.inj H
    go_enter Tryz.func61, Tryz.ntmps61
    go_wp2
    go_ret
    exact ⟨sd_, dr_⟩
  · rw [if_neg c2] at H
    have c2b0 : decide (a0 < 10) = false := decide_eq_false c2
    clear c2
    obtain rfl := Option.some.inj H
    go_enter Tryz.func61, Tryz.ntmps61
    go_wp2
    go_ret
    exact ⟨sd_, dr_⟩
end Go.Proofs.YtehmhfbfgniekaaGreatDoor.Rl
namespace Go.Proofs.YtehmhfbfgniekaaGreatDoor.Dg
set_option linter.unusedVariables false
set_option linter.unusedSimpArgs false
open Go.RowKit
theorem rr_add (x : BitVec 32) (n : Nat) (h : n < 32) (h0 : 0 < n) : x >>> n + x <<< (32 - n) = rr x n := by
  unfold rr
  have hz : x >>> n &&& x <<< (32 - n) = 0#32 := by
    ext i hi
    by_cases h2 : i < 32 - n
    · simp [h2]
    · have := BitVec.getLsbD_of_ge x (n + i) (by omega)
      simp [this]
  rw [BitVec.add_eq_or_of_and_eq_zero _ _ hz, BitVec.or_comm]
theorem turn2 (x : BitVec 32) (w : World) :
    Calls Tryz.prog 107 #[.int .u32 (u x), .int .i64 2] w fun e w' => e = .returned (.int .u32 (u (rr x 2))) ∧ ∃ m, w' = w.drewN m := by
  have h0 := u_nonneg x
  have h1 := u_lt x
  go_enter Tryz.func107, Tryz.ntmps107
  go_wp2
  go_quiet (fail)
  go_wp2
  go_ret
  refine ⟨congrArg (fun z => Ending.returned (.int .u32 z)) ?_, _, rfl⟩
  have e : u x / 4 + u x * 1073741824 % 4294967296 = (u x / 4 + u x * 1073741824 % 4294967296) % 4294967296 := by omega
  refine e.trans ?_
  rw [u_shlc x 30 1073741824 (by decide), u_shrc x 2 4 (by decide), mod_u2, rr_add x 2 (by decide) (by decide)]
theorem turn6 (x : BitVec 32) (w : World) :
    Calls Tryz.prog 107 #[.int .u32 (u x), .int .i64 6] w fun e w' => e = .returned (.int .u32 (u (rr x 6))) ∧ ∃ m, w' = w.drewN m := by
  have h0 := u_nonneg x
  have h1 := u_lt x
  go_enter Tryz.func107, Tryz.ntmps107
  go_wp2
  go_quiet (fail)
  go_wp2
  go_ret
  refine ⟨congrArg (fun z => Ending.returned (.int .u32 z)) ?_, _, rfl⟩
  have e : u x / 64 + u x * 67108864 % 4294967296 = (u x / 64 + u x * 67108864 % 4294967296) % 4294967296 := by omega
  refine e.trans ?_
  rw [u_shlc x 26 67108864 (by decide), u_shrc x 6 64 (by decide), mod_u2, rr_add x 6 (by decide) (by decide)]
theorem turn7 (x : BitVec 32) (w : World) :
    Calls Tryz.prog 107 #[.int .u32 (u x), .int .i64 7] w fun e w' => e = .returned (.int .u32 (u (rr x 7))) ∧ ∃ m, w' = w.drewN m := by
  have h0 := u_nonneg x
  have h1 := u_lt x
  go_enter Tryz.func107, Tryz.ntmps107
  go_wp2
  go_quiet (fail)
  go_wp2
  go_ret
  refine ⟨congrArg (fun z => Ending.returned (.int .u32 z)) ?_, _, rfl⟩
  have e : u x / 128 + u x * 33554432 % 4294967296 = (u x / 128 + u x * 33554432 % 4294967296) % 4294967296 := by omega
  refine e.trans ?_
  rw [u_shlc x 25 33554432 (by decide), u_shrc x 7 128 (by decide), mod_u2, rr_add x 7 (by decide) (by decide)]
theorem turn11 (x : BitVec 32) (w : World) :
    Calls Tryz.prog 107 #[.int .u32 (u x), .int .i64 11] w fun e w' => e = .returned (.int .u32 (u (rr x 11))) ∧ ∃ m, w' = w.drewN m := by
  have h0 := u_nonneg x
  have h1 := u_lt x
  go_enter Tryz.func107, Tryz.ntmps107
  go_wp2
  go_quiet (fail)
  go_wp2
  go_ret
  refine ⟨congrArg (fun z => Ending.returned (.int .u32 z)) ?_, _, rfl⟩
  have e : u x / 2048 + u x * 2097152 % 4294967296 = (u x / 2048 + u x * 2097152 % 4294967296) % 4294967296 := by omega
  refine e.trans ?_
  rw [u_shlc x 21 2097152 (by decide), u_shrc x 11 2048 (by decide), mod_u2, rr_add x 11 (by decide) (by decide)]
theorem turn13 (x : BitVec 32) (w : World) :
    Calls Tryz.prog 107 #[.int .u32 (u x), .int .i64 13] w fun e w' => e = .returned (.int .u32 (u (rr x 13))) ∧ ∃ m, w' = w.drewN m := by
  have h0 := u_nonneg x
  have h1 := u_lt x
  go_enter Tryz.func107, Tryz.ntmps107
  go_wp2
  go_quiet (fail)
  go_wp2
  go_ret
  refine ⟨congrArg (fun z => Ending.returned (.int .u32 z)) ?_, _, rfl⟩
  have e : u x / 8192 + u x * 524288 % 4294967296 = (u x / 8192 + u x * 524288 % 4294967296) % 4294967296 := by omega
  refine e.trans ?_
  rw [u_shlc x 19 524288 (by decide), u_shrc x 13 8192 (by decide), mod_u2, rr_add x 13 (by decide) (by decide)]
theorem turn17 (x : BitVec 32) (w : World) :
    Calls Tryz.prog 107 #[.int .u32 (u x), .int .i64 17] w fun e w' => e = .returned (.int .u32 (u (rr x 17))) ∧ ∃ m, w' = w.drewN m := by
  have h0 := u_nonneg x
  have h1 := u_lt x
  go_enter Tryz.func107, Tryz.ntmps107
  go_wp2
  go_quiet (fail)
  go_wp2
  go_ret
  refine ⟨congrArg (fun z => Ending.returned (.int .u32 z)) ?_, _, rfl⟩
  have e : u x / 131072 + u x * 32768 % 4294967296 = (u x / 131072 + u x * 32768 % 4294967296) % 4294967296 := by omega
  refine e.trans ?_
  rw [u_shlc x 15 32768 (by decide), u_shrc x 17 131072 (by decide), mod_u2, rr_add x 17 (by decide) (by decide)]
theorem turn18 (x : BitVec 32) (w : World) :
    Calls Tryz.prog 107 #[.int .u32 (u x), .int .i64 18] w fun e w' => e = .returned (.int .u32 (u (rr x 18))) ∧ ∃ m, w' = w.drewN m := by
  have h0 := u_nonneg x
  have h1 := u_lt x
  go_enter Tryz.func107, Tryz.ntmps107
  go_wp2
  go_quiet (fail)
  go_wp2
  go_ret
  refine ⟨congrArg (fun z => Ending.returned (.int .u32 z)) ?_, _, rfl⟩
  have e : u x / 262144 + u x * 16384 % 4294967296 = (u x / 262144 + u x * 16384 % 4294967296) % 4294967296 := by omega
  refine e.trans ?_
  rw [u_shlc x 14 16384 (by decide), u_shrc x 18 262144 (by decide), mod_u2, rr_add x 18 (by decide) (by decide)]
theorem turn19 (x : BitVec 32) (w : World) :
    Calls Tryz.prog 107 #[.int .u32 (u x), .int .i64 19] w fun e w' => e = .returned (.int .u32 (u (rr x 19))) ∧ ∃ m, w' = w.drewN m := by
  have h0 := u_nonneg x
  have h1 := u_lt x
  go_enter Tryz.func107, Tryz.ntmps107
  go_wp2
  go_quiet (fail)
  go_wp2
  go_ret
  refine ⟨congrArg (fun z => Ending.returned (.int .u32 z)) ?_, _, rfl⟩
  have e : u x / 524288 + u x * 8192 % 4294967296 = (u x / 524288 + u x * 8192 % 4294967296) % 4294967296 := by omega
  refine e.trans ?_
  rw [u_shlc x 13 8192 (by decide), u_shrc x 19 524288 (by decide), mod_u2, rr_add x 19 (by decide) (by decide)]
theorem turn22 (x : BitVec 32) (w : World) :
    Calls Tryz.prog 107 #[.int .u32 (u x), .int .i64 22] w fun e w' => e = .returned (.int .u32 (u (rr x 22))) ∧ ∃ m, w' = w.drewN m := by
  have h0 := u_nonneg x
  have h1 := u_lt x
  go_enter Tryz.func107, Tryz.ntmps107
  go_wp2
  go_quiet (fail)
  go_wp2
  go_ret
  refine ⟨congrArg (fun z => Ending.returned (.int .u32 z)) ?_, _, rfl⟩
  have e : u x / 4194304 + u x * 1024 % 4294967296 = (u x / 4194304 + u x * 1024 % 4294967296) % 4294967296 := by omega
  refine e.trans ?_
  rw [u_shlc x 10 1024 (by decide), u_shrc x 22 4194304 (by decide), mod_u2, rr_add x 22 (by decide) (by decide)]
theorem turn25 (x : BitVec 32) (w : World) :
    Calls Tryz.prog 107 #[.int .u32 (u x), .int .i64 25] w fun e w' => e = .returned (.int .u32 (u (rr x 25))) ∧ ∃ m, w' = w.drewN m := by
  have h0 := u_nonneg x
  have h1 := u_lt x
  go_enter Tryz.func107, Tryz.ntmps107
  go_wp2
  go_quiet (fail)
  go_wp2
  go_ret
  refine ⟨congrArg (fun z => Ending.returned (.int .u32 z)) ?_, _, rfl⟩
  have e : u x / 33554432 + u x * 128 % 4294967296 = (u x / 33554432 + u x * 128 % 4294967296) % 4294967296 := by omega
  refine e.trans ?_
  rw [u_shlc x 7 128 (by decide), u_shrc x 25 33554432 (by decide), mod_u2, rr_add x 25 (by decide) (by decide)]
theorem turn_any (x : BitVec 32) (n : Int) (w : World) (h : n ∈ [(2 : Int), 6, 7, 11, 13, 17, 18, 19, 22, 25]) :
    Calls Tryz.prog 107 #[.int .u32 (u x), .int .i64 n] w fun e w' => e = .returned (.int .u32 (u (rr x n.toNat))) ∧ ∃ m, w' = w.drewN m := by
  simp only [List.mem_cons, List.not_mem_nil, or_false] at h
  rcases h with rfl | rfl | rfl | rfl | rfl | rfl | rfl | rfl | rfl | rfl
  · exact turn2 x w
  · exact turn6 x w
  · exact turn7 x w
  · exact turn11 x w
  · exact turn13 x w
  · exact turn17 x w
  · exact turn18 x w
  · exact turn19 x w
  · exact turn22 x w
  · exact turn25 x w
theorem three_any (x y z : Int) (w : World) :
    Calls Tryz.prog 106 #[.int .u32 x, .int .u32 y, .int .u32 z] w fun e w' => e = .returned (.int .u32 (bits .xor .u32 (bits .xor .u32 x y) z)) ∧ ∃ m, w' = w.drewN m := by
  go_enter Tryz.func106, Tryz.ntmps106
  go_wp2
  go_ret
  exact ⟨rfl, 0, rfl⟩
end Go.Proofs.YtehmhfbfgniekaaGreatDoor.Dg
namespace Go.Proofs.YtehmhfbfgniekaaGreatDoor.Dg
set_option linter.unusedVariables false
set_option linter.unusedSimpArgs false
open Go.RowKit Blk Go.Proofs.YtehmhfbfgniekaaGreatDoorW.PrintWords Go.Proofs.YtehmhfbfgniekaaGreatDoorW.PrintLast Go.Proofs.YtehmhfbfgniekaaGreatDoorW.PrintMore
theorem below_setRow' {B g : Nat} {w w' : World} (h : Below B w w') (hg : B ≤ g) (cs : Array Value) : Below B w (w'.setRow g cs) :=
  h.trans ⟨rfl, rfl, rfl, by simp, fun k hk => setRow_other w' g k cs (by omega)⟩
def Z64 : Array Value := (List.replicate 64 (V 0)).toArray
theorem zero_8x8 (w : World) : (zeroValue 144).run Tryz.prog w = .ok (.agg Z64) w := by kernel_rfl
theorem zero_64 (w : World) : (zeroValue 141).run Tryz.prog w = .ok (.agg Z64) w := by kernel_rfl
def KV : Array Value := (KK.map V).toArray
def KL : Array Value := #[.int .u32 1116352408, .int .u32 1899447441, .int .u32 3049323471, .int .u32 3921009573, .int .u32 961987163, .int .u32 1508970993, .int .u32 2453635748, .int .u32 2870763221, .int .u32 3624381080, .int .u32 310598401, .int .u32 607225278, .int .u32 1426881987, .int .u32 1925078388, .int .u32 2162078206, .int .u32 2614888103, .int .u32 3248222580, .int .u32 3835390401, .int .u32 4022224774, .int .u32 264347078, .int .u32 604807628, .int .u32 770255983, .int .u32 1249150122, .int .u32 1555081692, .int .u32 1996064986, .int .u32 2554220882, .int .u32 2821834349, .int .u32 2952996808, .int .u32 3210313671, .int .u32 3336571891, .int .u32 3584528711, .int .u32 113926993, .int .u32 338241895, .int .u32 666307205, .int .u32 773529912, .int .u32 1294757372, .int .u32 1396182291, .int .u32 1695183700, .int .u32 1986661051, .int .u32 2177026350, .int .u32 2456956037, .int .u32 2730485921, .int .u32 2820302411, .int .u32 3259730800, .int .u32 3345764771, .int .u32 3516065817, .int .u32 3600352804, .int .u32 4094571909, .int .u32 275423344, .int .u32 430227734, .int .u32 506948616, .int .u32 659060556, .int .u32 883997877, .int .u32 958139571, .int .u32 1322822218, .int .u32 1537002063, .int .u32 1747873779, .int .u32 1955562222, .int .u32 2024104815, .int .u32 2227730452, .int .u32 2361852424, .int .u32 2428436474, .int .u32 2756734187, .int .u32 3204031479, .int .u32 3329325298]
theorem KV_eq : KV = KL := by
  unfold KV
  rw [KK_eq]
  rfl
theorem info_8x8 : (Tryz.prog.info? 144).map (·.size) = some 64 := by kernel_rfl
theorem info_64 : (Tryz.prog.info? 141).map (·.size) = some 64 := by kernel_rfl
theorem info_8 : (Tryz.prog.info? 121).map (·.size) = some 8 := by kernel_rfl
set_option maxHeartbeats 4000000 in
set_option maxRecDepth 100000 in
theorem rounds_calls (w : World) : Calls Tryz.prog 104 #[] w fun e w' => e = .returned (.agg KV) ∧ Below w.heap.size w w' := by
  have hz := zero_8x8
  have hnew : (w.alloc (.cells Z64 144)).heap[w.heap.size]? = some (.cells Z64 144 (0, 0)) := Row.new w (List.replicate 64 (V 0)) 144
  have HN := As.mk hnew
  clear hnew
  go_enter Tryz.func104, Tryz.ntmps104
  go_wp2_with (first
    | (refine wpList_store_row rfl 144 (.tmp 0) (.tmp 9) rfl w.heap.size KL rfl (by kernel_rfl) 144 _ HN.out (by kernel_rfl) (by kernel_rfl) (by kernel_rfl) ?_)
    | fail)
  refine bodyPost_ret (v := .agg KL) (results_cell_row rfl _ _ w.heap.size 144 _ (0, 0) _ rfl (setRow_heap _ _ _ _ _ _ HN.out) Tryz.underlying144 rfl (by kernel_rfl)) rfl ⟨?_, below_setRow' ((Below.refl _ _).alloc (Nat.le_refl _) _) (Nat.le_refl _) _⟩
  rw [KV_eq]
end Go.Proofs.YtehmhfbfgniekaaGreatDoor.Dg
namespace Go.Proofs.YtehmhfbfgniekaaGreatDoor.Dg
set_option linter.unusedVariables false
set_option linter.unusedSimpArgs false
open Go.RowKit Blk Go.Proofs.YtehmhfbfgniekaaGreatDoorW.PrintWords Go.Proofs.YtehmhfbfgniekaaGreatDoorW.PrintLast Go.Proofs.YtehmhfbfgniekaaGreatDoorW.PrintMore
def part4 (m : List Int) (t : Nat) : Nat → W
  | 0 => 0
  | i + 1 => part4 m t i * 256#32 + BitVec.ofInt 32 (m.getD (4 * t + i) 0)
theorem part4_word (m : List Int) (t : Nat) : part4 m t 4 = word m t := by
  simp only [part4, word, w4, BitVec.ofInt_add, BitVec.ofInt_mul, Nat.add_zero]
  generalize BitVec.ofInt 32 (m.getD (4 * t) 0) = a
  generalize BitVec.ofInt 32 (m.getD (4 * t + 1) 0) = b
  generalize BitVec.ofInt 32 (m.getD (4 * t + 2) 0) = c
  generalize BitVec.ofInt 32 (m.getD (4 * t + 3) 0) = d
  rw [show BitVec.ofInt 32 16777216 = 256#32 * 256#32 * 256#32 by decide, show BitVec.ofInt 32 65536 = 256#32 * 256#32 by decide, show BitVec.ofInt 32 256 = 256#32 by decide]
  grind
theorem mul_u (x : W) (n : Int) : (u x * 256 + n) % 4294967296 = u (x * 256#32 + BitVec.ofInt 32 n) := by
  rw [mod_u, BitVec.ofInt_add, BitVec.ofInt_mul, u_ofInt]; rfl
def inner (m : List Int) (t i : Nat) : List Value := (sch m t ++ part4 m t i :: List.replicate (63 - t) 0).map V
theorem inner_0 (m : List Int) (t : Nat) (h : t < 64) : (sch m t ++ List.replicate (64 - t) 0).map V = inner m t 0 := by
  unfold inner
  rw [show 64 - t = (63 - t) + 1 by omega, List.replicate_succ]; rfl
theorem inner_at (m : List Int) (t i : Nat) : (inner m t i)[t]? = some (V (part4 m t i)) := by
  unfold inner
  rw [List.getElem?_map, List.getElem?_append_right (by rw [sch_length]; exact Nat.le_refl _), sch_length, Nat.sub_self]
  rfl
theorem inner_set (m : List Int) (t i : Nat) (x : W) (h : x = part4 m t (i + 1)) : (inner m t i).set t (V x) = inner m t (i + 1) := by
  subst h
  unfold inner
  rw [← List.map_set, List.set_append_right _ _ (by rw [sch_length]; exact Nat.le_refl _), sch_length, Nat.sub_self, List.set_cons_zero]
theorem inner_4 (m : List Int) (t : Nat) (h : t < 16) : inner m t 4 = (sch m (t + 1) ++ List.replicate (64 - (t + 1)) 0).map V := by
  unfold inner
  rw [part4_word, sch, nxt, if_pos h, show 64 - (t + 1) = 63 - t by omega]
  simp
theorem all_V (l : List W) : ((l.map V).toArray).all (·.oneCell') = true := by simp [V, Value.oneCell']
theorem cell_at' {w : World} {b o n : Nat} {v : Value} (h : w.cell? ((⟨b, o, none⟩ : Addr).add n) = some v) : w.cell? ⟨b, o + n, none⟩ = some v := by
  unfold Addr.add at h
  split at h
  · rename_i e; subst e; exact h
  · exact h
set_option maxHeartbeats 4000000 in
set_option maxRecDepth 100000 in
theorem schedule_calls (A : Option Addr) (cap : Nat) (m : List Int) (w : World) (hm : m.length = 64) (hm8 : ∀ x ∈ m, 0 ≤ x ∧ x < 256) (hC : (Kd.int .u8).C w A 64 m) :
    Calls Tryz.prog 105 #[.slice A 64 cap] w fun e w' => e = .returned (.agg ((sch m 64).map V).toArray) ∧ Below w.heap.size w w' := by
  have hz := zero_64
  obtain ⟨ad, rfl, _⟩ := Kd.at_int hC (0 : Int) (by omega) (by omega)
  obtain ⟨bb, off, sp⟩ := ad
  have hsp : sp = none := by simpa [Addr.add] using cell_spot (cell_of_C hC 0 (by omega))
  subst hsp
  have HC := As.mk hC
  have HM := As.mk hm
  have H8 := As.mk hm8
  have hR0 : As (Row ((w.alloc (.cells Z64 141)).alloc (.cells Z64 141)) (w.heap.size + 1) 141 ((sch m 0 ++ List.replicate (64 - 0) 0).map V)) := ⟨by
    have := Row.new (w.alloc (.cells Z64 141)) (List.replicate 64 (V 0)) 141
    rw [show (w.alloc (.cells Z64 141)).heap.size = w.heap.size + 1 from by simp] at this
    exact this⟩
  have hX0 : As (Row ((w.alloc (.cells Z64 141)).alloc (.cells Z64 141)) w.heap.size 141 (List.replicate 64 (V 0))) := ⟨(Row.new w (List.replicate 64 (V 0)) 141).alloc _⟩
  have hB0 : As (Below w.heap.size w ((w.alloc (.cells Z64 141)).alloc (.cells Z64 141))) := ⟨((Below.refl _ _).alloc (Nat.le_refl _) _).alloc (by simp) _⟩
  clear hC hm hm8
  go_enter Tryz.func105, Tryz.ntmps105
  go_wp2
  go_loopw [4] (fun v4 wr => ∃ t : Nat, t ≤ 64 ∧ v4 = .int .i64 t ∧ As (Row wr (w.heap.size + 1) 141 ((sch m t ++ List.replicate (64 - t) 0).map V)) ∧ As (Row wr w.heap.size 141 (List.replicate 64 (V 0))) ∧ As (Below w.heap.size w wr)) (fun v4 _ => 64 - (intOf v4).toNat)
  case atStart => exact ⟨0, by omega, rfl, hR0, hX0, hB0⟩
  case round =>
    clear hR0 hX0 hB0 hz
    obtain ⟨t, ht, rfl, hR, hX, hB⟩ := hrel
    by_cases h64 : t < 64
    · by_cases h16 : t < 16
      · go_wp2
        obtain ⟨wo, hwo⟩ : ∃ wo : World, wo = wr := ⟨_, rfl⟩
        subst hwo
        go_loopw [5] (fun v5 wr => ∃ i : Nat, i ≤ 4 ∧ v5 = .int .i64 i ∧ As (Row wr (w.heap.size + 1) 141 (inner m t i)) ∧ As (Row wr w.heap.size 141 (List.replicate 64 (V 0))) ∧ As (Below w.heap.size w wr)) (fun v5 _ => 4 - (intOf v5).toNat)
        case atStart => exact ⟨0, by omega, rfl, ⟨by rw [← inner_0 m t h64]; exact hR.out⟩, hX, hB⟩
        case round =>
          clear hR hX hB wo
          obtain ⟨i, hi, rfl, hR, hX, hB⟩ := hrel
          by_cases h4 : i < 4
          · have hcell := cell_at' (cell_of_C (Kd.C_below HC.out hB.out) (4 * t + i) (by omega))
            obtain ⟨x, hx, x0, x1⟩ : ∃ x, m.getD (4 * t + i) 0 = x ∧ 0 ≤ x ∧ x < 256 := ⟨_, rfl, H8.out _ (by
              have : 4 * t + i < m.length := by rw [HM.out]; omega
              simp [this])⟩
            rw [hx] at hcell
            have hw := hR.out.cell (inner_at m t i)
            have hf := hR.out.free t none
            obtain ⟨p, hp⟩ : ∃ p, part4 m t i = p := ⟨_, rfl⟩
            rw [hp] at hw
            unfold V at hw
            have E := As.mk (And.intro hx hp)
            clear hx hp
            go_wp2
            refine QTail.wp_region_lit 15 (by kernel_rfl) (by kernel_rfl) ?_
            simp only [List.take_succ_cons, List.take_zero, List.drop_succ_cons, List.drop_zero]
            repeat (go_big_quiet_step (fail))
            refine wpQuiet_nil ?_
            intro _ hw'
            obtain ⟨nq, rfl⟩ := hw'
            go_wp2
            go_roundw
            case measure => simp [intOf]; omega
            case rel =>
              refine ⟨i + 1, by omega, by go_num, ⟨?_⟩, ⟨(hX.out.drewN nq).set_ne (by simp) _⟩, ⟨(Blk.pw_drewN hB.out nq).setCell (by simp) _⟩⟩
              rw [show u p * 256 % 4294967296 + x = (u p * 256 + x) % 4294967296 by omega, mul_u]
              have := (hR.out.drewN nq).set t (V (p * 256#32 + BitVec.ofInt 32 x))
              rw [inner_set m t i _ (by rw [part4, E.out.1, E.out.2])] at this
              exact this
          · have : i = 4 := by omega
            subst this
            go_wp2
            refine ⟨⟨t + 1, by omega, by go_num, ⟨?_⟩, hX, hB⟩, by simp [intOf]; omega⟩
            rw [← inner_4 m t h16]
            exact hR.out
      · have hb16 : 16 ≤ t := by omega
        have cell (j : Nat) (hj : j < t) := hR.out.cell (sch_at m t j hj)
        obtain ⟨x2, h2⟩ : ∃ x, (sch m t).getD (t - 2) 0 = x := ⟨_, rfl⟩
        obtain ⟨x7, h7⟩ : ∃ x, (sch m t).getD (t - 7) 0 = x := ⟨_, rfl⟩
        obtain ⟨x15, h15⟩ : ∃ x, (sch m t).getD (t - 15) 0 = x := ⟨_, rfl⟩
        obtain ⟨x16, h16'⟩ : ∃ x, (sch m t).getD (t - 16) 0 = x := ⟨_, rfl⟩
        have c2 := cell (t - 2) (by omega)
        have c7 := cell (t - 7) (by omega)
        have c15 := cell (t - 15) (by omega)
        have c16 := cell (t - 16) (by omega)
        rw [h2] at c2
        rw [h7] at c7
        rw [h15] at c15
        rw [h16'] at c16
        unfold V at c2 c7 c15 c16
        have E := As.mk (And.intro h2 (And.intro h7 (And.intro h15 h16')))
        clear h2 h7 h15 h16' cell
        obtain ⟨vz, hvz⟩ : ∃ v, ((sch m t ++ List.replicate (64 - t) 0).map V)[t]? = some v := ⟨_, List.getElem?_eq_getElem (by simp [sch_length]; omega)⟩
        have hcw := hR.out.cell hvz
        have hfw := hR.out.free t none
        clear hvz
        go_wp2
        go_quiet (first | (go_at_call 107; exact Calls.quiet_of (turn_any _ _ _ (by decide))) | (go_at_call 106; exact Calls.quiet_of (three_any _ _ _ _)))
        replace c7 : (wr.drewN nq).cell? ⟨w.heap.size + 1, t - 7, none⟩ = _ := c7
        replace c15 : (wr.drewN nq).cell? ⟨w.heap.size + 1, t - 15, none⟩ = _ := c15
        replace c16 : (wr.drewN nq).cell? ⟨w.heap.size + 1, t - 16, none⟩ = _ := c16
        replace hcw : (wr.drewN nq).cell? ⟨w.heap.size + 1, t, none⟩ = _ := hcw
        replace hfw : (wr.drewN nq).frozen? ⟨w.heap.size + 1, t, none⟩ = _ := hfw
        replace hR := As.mk (hR.out.drewN nq)
        replace hX := As.mk (hX.out.drewN nq)
        replace hB := As.mk (Blk.pw_drewN hB.out nq)
        clear c2
        generalize wr.drewN nq = wq at *
        clear wr
        go_wp2
        go_quiet (first | (go_at_call 107; exact Calls.quiet_of (turn_any _ _ _ (by decide))) | (go_at_call 106; exact Calls.quiet_of (three_any _ _ _ _)))
        replace c7 : (wq.drewN nq).cell? ⟨w.heap.size + 1, t - 7, none⟩ = _ := c7
        replace c16 : (wq.drewN nq).cell? ⟨w.heap.size + 1, t - 16, none⟩ = _ := c16
        replace hcw : (wq.drewN nq).cell? ⟨w.heap.size + 1, t, none⟩ = _ := hcw
        replace hfw : (wq.drewN nq).frozen? ⟨w.heap.size + 1, t, none⟩ = _ := hfw
        replace hR := As.mk (hR.out.drewN nq)
        replace hX := As.mk (hX.out.drewN nq)
        replace hB := As.mk (Blk.pw_drewN hB.out nq)
        clear c15
        generalize wq.drewN nq = wz at *
        clear wq
        go_wp2
        refine QTail.wp_region_lit 15 (by kernel_rfl) (by kernel_rfl) ?_
        simp only [List.take_succ_cons, List.take_zero, List.drop_succ_cons, List.drop_zero]
        repeat (go_big_quiet_step (fail))
        refine wpQuiet_nil ?_
        intro _ hw'
        obtain ⟨nq, rfl⟩ := hw'
        go_wp2
        go_roundw
        case measure => simp [intOf]; omega
        case rel =>
          refine ⟨t + 1, by omega, by go_num, ⟨?_⟩, ⟨(hX.out.drewN nq).set_ne (by simp) _⟩, ⟨(Blk.pw_drewN hB.out nq).setCell (by simp) _⟩⟩
          have := (hR.out.drewN nq).set t (V (nxt m (sch m t) t))
          rw [sch_set m t h64] at this
          have hn : nxt m (sch m t) t = s1 x2 + x7 + s0 x15 + x16 := by
            rw [nxt, if_neg h16, E.out.1, E.out.2.1, E.out.2.2.1, E.out.2.2.2]
          rw [hn] at this
          rw [sched_word]
          exact this
    · have : t = 64 := by omega
      subst this
      go_wp2_with (first
        | (refine wpList_load_row rfl 141 (.tmp 3) rfl (w.heap.size + 1) rfl 141 _ (0, 0) _ hR.out Tryz.underlying141 rfl (by rw [info_64]; simp [sch_length]) ?_)
        | (refine wpList_store_row rfl 141 (.tmp 2) (.tmp 80) rfl w.heap.size ((sch m 64 ++ List.replicate (64 - 64) 0).map V).toArray rfl rfl 141 _ hX.out (by rw [info_64]; simp [sch_length]) (by simp [sch_length]) (all_V _) ?_)
        | fail)
      refine bodyPost_ret (v := .agg ((sch m 64 ++ List.replicate (64 - 64) 0).map V).toArray) (results_cell_row rfl _ _ w.heap.size 141 _ (0, 0) _ rfl (setRow_heap _ _ _ _ _ _ hX.out) Tryz.underlying141 rfl (by rw [info_64]; simp [sch_length])) rfl ⟨?_, below_setRow hB.out (Nat.le_refl _) _⟩
      simp
end Go.Proofs.YtehmhfbfgniekaaGreatDoor.Dg
namespace Go.Proofs.YtehmhfbfgniekaaGreatDoor.Dg
set_option linter.unusedVariables false
set_option linter.unusedSimpArgs false
open Go.RowKit Blk Go.Proofs.YtehmhfbfgniekaaGreatDoorW.PrintWords Go.Proofs.YtehmhfbfgniekaaGreatDoorW.PrintLast Go.Proofs.YtehmhfbfgniekaaGreatDoorW.PrintMore
def Z8 : Array Value := (List.replicate 8 (V 0)).toArray
theorem zero_8 (w : World) : (zeroValue 121).run Tryz.prog w = .ok (.agg Z8) w := by kernel_rfl
structure Bk (w : World) (H : List W) (m : List Int) (b5 b6 b7 : Nat) (v : List W) (wr : World) : Prop where
  h : Row wr w.heap.size 121 (H.map V)
  res : Row wr (w.heap.size + 1) 121 (List.replicate 8 (V 0))
  k : Row wr b5 144 (KK.map V)
  ws : Row wr b6 141 ((sch m 64).map V)
  vs : Row wr b7 121 (v.map V)
  below : Below w.heap.size w wr
theorem Bk.drewN {w wr : World} {H : List W} {m : List Int} {b5 b6 b7 : Nat} {v : List W} (h : Bk w H m b5 b6 b7 v wr) (n : Nat) : Bk w H m b5 b6 b7 v (wr.drewN n) :=
  ⟨h.h.drewN n, h.res.drewN n, h.k.drewN n, h.ws.drewN n, h.vs.drewN n, Blk.pw_drewN h.below n⟩
theorem Bk.set {w wr : World} {H : List W} {m : List Int} {b5 b6 b7 : Nat} {v : List W} (h : Bk w H m b5 b6 b7 v wr) (hn : w.heap.size + 1 < b5 ∧ b5 < b6 ∧ b6 < b7) (i : Nat) (x : W) :
    Bk w H m b5 b6 b7 (v.set i x) (wr.setCell ⟨b7, i, none⟩ (.int .u32 (u x))) :=
  ⟨h.h.set_ne (by simp; omega) _, h.res.set_ne (by simp; omega) _, h.k.set_ne (by simp; omega) _, h.ws.set_ne (by simp; omega) _, by
    have := h.vs.set i (V x)
    rw [← List.map_set] at this
    exact this, h.below.setCell (by simp; omega) _⟩
theorem ch_eq (e f g : W) : (e &&& f) ^^^ ((4294967295#32 ^^^ e) &&& g) = ch e f g := by
  unfold ch
  rw [show 4294967295#32 = BitVec.allOnes 32 by decide, BitVec.allOnes_xor]
  ext i hi
  simp
  cases e[i] <;> cases f[i] <;> cases g[i] <;> rfl
theorem maj_eq (a b c : W) : (a &&& b) ^^^ (a &&& c) ^^^ (b &&& c) = maj a b c := by
  unfold maj
  ext i hi
  simp
  cases a[i] <;> cases b[i] <;> cases c[i] <;> rfl
theorem max_u : IntKind.u32.max = u 4294967295#32 := by decide
theorem blk_x (h e f g k x : W) : ((u h + bits .xor .u32 (bits .xor .u32 (u (rr e 6)) (u (rr e 11))) (u (rr e 25)) + bits .xor .u32 (bits .and .u32 (u e) (u f)) (bits .and .u32 (bits .xor .u32 IntKind.u32.max (u e)) (u g)) + u k) % 4294967296 + u x) % 4294967296
    = u (h + S1 e + ch e f g + k + x) := by
  rw [max_u]
  simp only [u_xor, u_and]
  rw [ch_eq, mod_u4, mod_u2]
  rfl
theorem blk_y (a b c : W) : (bits .xor .u32 (bits .xor .u32 (u (rr a 2)) (u (rr a 13))) (u (rr a 22)) + bits .xor .u32 (bits .xor .u32 (bits .and .u32 (u a) (u b)) (bits .and .u32 (u a) (u c))) (bits .and .u32 (u b) (u c))) % 4294967296
    = u (S0 a + maj a b c) := by
  simp only [u_xor, u_and]
  rw [maj_eq, mod_u2]
  rfl
def up (a b c d e f g h : W) (q : Nat) : List W := [a] ++ [if 1 > q then a else b] ++ [if 2 > q then b else c] ++ [if 3 > q then c else d] ++ [if 4 > q then d else e] ++ [if 5 > q then e else f] ++ [if 6 > q then f else g] ++ [if 7 > q then g else h]
set_option maxHeartbeats 8000000 in
set_option maxRecDepth 100000 in
theorem block_calls (A : Option Addr) (cap : Nat) (H : List W) (m : List Int) (w : World) (hH : H.length = 8) (hm : m.length = 64) (hm8 : ∀ x ∈ m, 0 ≤ x ∧ x < 256) (hC : (Kd.int .u8).C w A 64 m) :
    Calls Tryz.prog 85 #[.agg (H.map V).toArray, .slice A 64 cap] w fun e w' => e = .returned (.agg ((blk KK m H).map V).toArray) ∧ Below w.heap.size w w' := by
  have hz := zero_8
  have hz2 := zero_8x8
  have hz3 := zero_64
  have HC := As.mk hC
  have HM := As.mk hm
  have H8 := As.mk hm8
  have HH := As.mk hH
  clear hC hm hm8 hH
  go_enter Tryz.func85, Tryz.ntmps85
  go_wp2_with (fail)
  refine (rounds_calls _).mono ?_
  rintro e w1 ⟨rfl, hb⟩
  have h1 : As (Row w1 w.heap.size 121 (H.map V)) := ⟨((Row.new w (H.map V) 121).alloc _).below' hb⟩
  have h2 : As (Row w1 (w.heap.size + 1) 121 (List.replicate 8 (V 0))) := ⟨by
    have := (Row.new (w.alloc (.cells (H.map V).toArray 121)) (List.replicate 8 (V 0)) 121).below' hb
    rw [show (w.alloc (.cells (H.map V).toArray 121)).heap.size = w.heap.size + 1 from by simp] at this
    exact this⟩
  have h0 : As (Below w.heap.size w w1) := ⟨(((Below.refl _ _).alloc (Nat.le_refl _) _).alloc (by simp) _).trans (hb.mono (by simp; omega))⟩
  clear hb
  have hk : As ((w1.alloc (.cells Z64 144)).heap[w1.heap.size]? = some (.cells Z64 144 (0, 0))) := ⟨Row.new w1 (List.replicate 64 (V 0)) 144⟩
  have hkv : KV.size = 64 := by simp [KV, KK_len]
  have hka : KV.all (·.oneCell') = true := all_V KK
  have HK := As.mk (And.intro hkv hka)
  clear hkv hka
  go_wp2_with (first
    | (refine wpList_store_row rfl 144 (.tmp 5) (.tmp 15) rfl w1.heap.size KV rfl rfl 144 _ hk.out (by rw [info_8x8, HK.out.1]) (by rw [HK.out.1]; rfl) HK.out.2 ?_)
    | fail)
  have g1 : As (Row ((w1.alloc (.cells Z64 144)).setRow w1.heap.size KV) w.heap.size 121 (H.map V)) := ⟨(h1.out.alloc _).setRow_ne (by have := h1.out.lt; omega) _⟩
  have g2 : As (Row ((w1.alloc (.cells Z64 144)).setRow w1.heap.size KV) (w.heap.size + 1) 121 (List.replicate 8 (V 0))) := ⟨(h2.out.alloc _).setRow_ne (by have := h2.out.lt; omega) _⟩
  have g3 : As (Row ((w1.alloc (.cells Z64 144)).setRow w1.heap.size KV) w1.heap.size 144 (KK.map V)) := ⟨setRow_heap _ _ _ _ _ _ hk.out⟩
  have g0 : As (Below w.heap.size w ((w1.alloc (.cells Z64 144)).setRow w1.heap.size KV)) := ⟨below_setRow (h0.out.alloc h0.out.size _) h0.out.size _⟩
  have hlt := h2.out.lt
  clear h1 h2 h0 hk
  obtain ⟨b5, hb5⟩ : ∃ b, w1.heap.size = b := ⟨_, rfl⟩
  rw [hb5] at g1 g2 g3 g0 hlt ⊢
  generalize ((w1.alloc (.cells Z64 144)).setRow b5 KV) = w2 at *
  refine (schedule_calls A cap m _ HM.out H8.out (Kd.C_below HC.out g0.out)).mono ?_
  rintro e w3 ⟨rfl, hb⟩
  replace g1 := As.mk (g1.out.below' hb)
  replace g2 := As.mk (g2.out.below' hb)
  replace g3 := As.mk (g3.out.below' hb)
  replace g0 := As.mk (g0.out.trans (hb.mono g0.out.size))
  clear hb hb5
  have hk : As ((w3.alloc (.cells Z64 141)).heap[w3.heap.size]? = some (.cells Z64 141 (0, 0))) := ⟨Row.new w3 (List.replicate 64 (V 0)) 141⟩
  have HS : As (((sch m 64).map V).toArray.size = 64) := ⟨by simp [sch_length]⟩
  have HHS : As ((H.map V).toArray.size = 8) := ⟨by simp [HH.out]⟩
  go_upto_region 3 with (first
    | (refine wpList_store_row rfl 141 (.tmp 6) (.tmp 17) rfl w3.heap.size ((sch m 64).map V).toArray rfl rfl 141 _ hk.out (by rw [info_64, HS.out]) (by rw [HS.out]; rfl) (all_V _) ?_)
    | fail)
  replace g1 : As (Row ((w3.alloc (.cells Z64 141)).setRow w3.heap.size ((sch m 64).map V).toArray) w.heap.size 121 (H.map V)) := ⟨(g1.out.alloc _).setRow_ne (by have := g1.out.lt; omega) _⟩
  replace g2 : As (Row ((w3.alloc (.cells Z64 141)).setRow w3.heap.size ((sch m 64).map V).toArray) (w.heap.size + 1) 121 (List.replicate 8 (V 0))) := ⟨(g2.out.alloc _).setRow_ne (by have := g2.out.lt; omega) _⟩
  have hlt5 := g3.out.lt
  replace g3 : As (Row ((w3.alloc (.cells Z64 141)).setRow w3.heap.size ((sch m 64).map V).toArray) b5 144 (KK.map V)) := ⟨(g3.out.alloc _).setRow_ne (by omega) _⟩
  have g4 : As (Row ((w3.alloc (.cells Z64 141)).setRow w3.heap.size ((sch m 64).map V).toArray) w3.heap.size 141 ((sch m 64).map V)) := ⟨setRow_heap _ _ _ _ _ _ hk.out⟩
  replace g0 : As (Below w.heap.size w ((w3.alloc (.cells Z64 141)).setRow w3.heap.size ((sch m 64).map V).toArray)) := ⟨below_setRow (g0.out.alloc g0.out.size _) g0.out.size _⟩
  clear hk
  obtain ⟨b6, hb6⟩ : ∃ b, w3.heap.size = b := ⟨_, rfl⟩
  rw [hb6] at g1 g2 g3 g4 g0 hlt5 ⊢
  generalize ((w3.alloc (.cells Z64 141)).setRow b6 ((sch m 64).map V).toArray) = w4 at *
  clear hb6
  have hk : As ((w4.alloc (.cells Z8 121)).heap[w4.heap.size]? = some (.cells Z8 121 (0, 0))) := ⟨Row.new w4 (List.replicate 8 (V 0)) 121⟩
  go_upto_region 4 with (first
    | (refine wpList_load_row rfl 121 (.tmp 2) rfl w.heap.size rfl 121 _ (0, 0) _ g1.out Tryz.underlying121 rfl (by rw [info_8, HHS.out]) ?_)
    | (refine wpList_store_row rfl 121 (.tmp 7) (.tmp 18) rfl w4.heap.size (H.map V).toArray rfl rfl 121 _ hk.out (by rw [info_8, HHS.out]) (by rw [HHS.out]; rfl) (all_V _) ?_)
    | fail)
  have hlt6 := g4.out.lt
  replace g1 : As (Row ((w4.alloc (.cells Z8 121)).setRow w4.heap.size (H.map V).toArray) w.heap.size 121 (H.map V)) := ⟨(g1.out.alloc _).setRow_ne (by have := g1.out.lt; omega) _⟩
  replace g2 : As (Row ((w4.alloc (.cells Z8 121)).setRow w4.heap.size (H.map V).toArray) (w.heap.size + 1) 121 (List.replicate 8 (V 0))) := ⟨(g2.out.alloc _).setRow_ne (by have := g2.out.lt; omega) _⟩
  replace g3 : As (Row ((w4.alloc (.cells Z8 121)).setRow w4.heap.size (H.map V).toArray) b5 144 (KK.map V)) := ⟨(g3.out.alloc _).setRow_ne (by have := g3.out.lt; omega) _⟩
  replace g4 : As (Row ((w4.alloc (.cells Z8 121)).setRow w4.heap.size (H.map V).toArray) b6 141 ((sch m 64).map V)) := ⟨(g4.out.alloc _).setRow_ne (by omega) _⟩
  have g5 : As (Row ((w4.alloc (.cells Z8 121)).setRow w4.heap.size (H.map V).toArray) w4.heap.size 121 (H.map V)) := ⟨setRow_heap _ _ _ _ _ _ hk.out⟩
  replace g0 : As (Below w.heap.size w ((w4.alloc (.cells Z8 121)).setRow w4.heap.size (H.map V).toArray)) := ⟨below_setRow (g0.out.alloc g0.out.size _) g0.out.size _⟩
  clear hk
  obtain ⟨b7, hb7⟩ : ∃ b, w4.heap.size = b := ⟨_, rfl⟩
  rw [hb7] at g1 g2 g3 g4 g5 g0 hlt6 ⊢
  generalize ((w4.alloc (.cells Z8 121)).setRow b7 (H.map V).toArray) = w5 at *
  clear hb7
  have h57 : w.heap.size + 1 < b5 ∧ b5 < b6 ∧ b6 < b7 := ⟨hlt, hlt5, hlt6⟩
  obtain ⟨a, b, c, d, e, f, g, z, hHH⟩ : ∃ a b c d e f g z, H = [a, b, c, d, e, f, g, z] := by
    have := HH.out
    match H, this with
    | [a, b, c, d, e, f, g, h], _ => exact ⟨a, b, c, d, e, f, g, h, rfl⟩
  subst hHH
  have HB : As (Bk w [a, b, c, d, e, f, g, z] m b5 b6 b7 [a, b, c, d, e, f, g, z] w5) := ⟨⟨g1.out, g2.out, g3.out, g4.out, g5.out, g0.out⟩⟩
  clear g1 g2 g3 g4 g5 g0 hlt hlt5 hlt6 hz hz2 hz3 HK HHS HS
  go_wp2
  go_loopw [8] (fun v8 wr => ∃ (t : Nat) (s : St), t ≤ 64 ∧ v8 = .int .i64 t ∧ As (s = rnds KK (sch m 64) (St.of [a, b, c, d, e, f, g, z]) t) ∧ As (Bk w [a, b, c, d, e, f, g, z] m b5 b6 b7 s.list wr)) (fun v8 _ => 64 - (intOf v8).toNat)
  case atStart => exact ⟨0, ⟨a, b, c, d, e, f, g, z⟩, by omega, rfl, ⟨rfl⟩, HB⟩
  case round =>
    clear HB w5
    obtain ⟨t, s, ht, rfl, Hs, HB⟩ := hrel
    by_cases h64 : t < 64
    · have hck := HB.out.k.cell (i := t) (v := V (KK.getD t 0)) (by
        have : t < KK.length := by rw [KK_len]; exact h64
        simp [this])
      have hcw := HB.out.ws.cell (i := t) (v := V ((sch m 64).getD t 0)) (by
        have : t < (sch m 64).length := by rw [sch_length]; exact h64
        simp [this])
      obtain ⟨k, hk⟩ : ∃ x, KK.getD t 0 = x := ⟨_, rfl⟩
      obtain ⟨x, hx⟩ : ∃ x, (sch m 64).getD t 0 = x := ⟨_, rfl⟩
      rw [hk] at hck
      rw [hx] at hcw
      have E := As.mk (And.intro hk hx)
      clear hk hx
      obtain ⟨a1, b1, c1, d1, e1, f1, g1, h1⟩ := s
      have q0 := HB.out.vs.cell (i := 0) (v := V a1) rfl
      have q1 := HB.out.vs.cell (i := 1) (v := V b1) rfl
      have q2 := HB.out.vs.cell (i := 2) (v := V c1) rfl
      have q3 := HB.out.vs.cell (i := 3) (v := V d1) rfl
      have q4 := HB.out.vs.cell (i := 4) (v := V e1) rfl
      have q5 := HB.out.vs.cell (i := 5) (v := V f1) rfl
      have q6 := HB.out.vs.cell (i := 6) (v := V g1) rfl
      have q7 := HB.out.vs.cell (i := 7) (v := V h1) rfl
      have hck' : wr.cell? ⟨b5, t / 8 * 8 + t % 8, none⟩ = some (V k) := by rw [show t / 8 * 8 + t % 8 = t by omega]; exact hck
      clear hck
      unfold V at q0 q1 q2 q3 q4 q5 q6 q7 hck' hcw
      go_wp2
      go_quiet (first | (go_at_call 107; exact Calls.quiet_of (turn_any _ _ _ (by decide))) | (go_at_call 106; exact Calls.quiet_of (three_any _ _ _ _)))
      rw [blk_x]
      replace q0 : (wr.drewN nq).cell? ⟨b7, 0, none⟩ = _ := q0
      have HB1 : As (Bk w [a, b, c, d, e, f, g, z] m b5 b6 b7 [a1, b1, c1, d1, e1, f1, g1, h1] (wr.drewN nq)) := ⟨HB.out.drewN nq⟩
      clear q1 q2 q3 q4 q5 q6 q7 hck' hcw HB
      generalize wr.drewN nq = w2 at *
      clear wr
      go_wp2
      go_quiet (first | (go_at_call 107; exact Calls.quiet_of (turn_any _ _ _ (by decide))) | (go_at_call 106; exact Calls.quiet_of (three_any _ _ _ _)))
      rw [blk_y]
      have HB2 : As (Bk w [a, b, c, d, e, f, g, z] m b5 b6 b7 (up a1 b1 c1 d1 e1 f1 g1 h1 7) (w2.drewN nq)) := ⟨HB1.out.drewN nq⟩
      clear q0 HB1
      generalize w2.drewN nq = w3 at *
      clear w2
      go_wp2
      go_loopw [13] (fun v13 wr => ∃ (i : Nat), i ≤ 7 ∧ v13 = .int .i64 i ∧ As (Bk w [a, b, c, d, e, f, g, z] m b5 b6 b7 (up a1 b1 c1 d1 e1 f1 g1 h1 i) wr)) (fun v13 _ => (intOf v13).toNat)
      case atStart => exact ⟨7, by omega, rfl, HB2⟩
      case round =>
        clear HB2 w3
        obtain ⟨i, hi, rfl, HB⟩ := hrel
        rcases (show i = 0 ∨ i = 1 ∨ i = 2 ∨ i = 3 ∨ i = 4 ∨ i = 5 ∨ i = 6 ∨ i = 7 by omega) with rfl | rfl | rfl | rfl | rfl | rfl | rfl | rfl
        · have k4 := HB.out.vs.cell (i := 4) (v := V d1) rfl
          have k0 := HB.out.vs.cell (i := 0) (v := V a1) rfl
          have kf : ∀ (o : Nat) (s : Option Nat), wr.frozen? ⟨b7, o, s⟩ = false := fun o s => HB.out.vs.free o s
          unfold V at k4 k0
          obtain ⟨X, hX⟩ : ∃ X, h1 + S1 e1 + ch e1 f1 g1 + k + x = X := ⟨_, rfl⟩
          obtain ⟨Y, hY⟩ : ∃ Y, S0 a1 + maj a1 b1 c1 = Y := ⟨_, rfl⟩
          rw [hX, hY]
          have EX := As.mk (And.intro hX hY)
          clear hX hY
          go_wp2
          go_roundw
          case measure => simp [intOf]; omega
          case rel =>
            refine ⟨t + 1, rnd k x ⟨a1, b1, c1, d1, e1, f1, g1, h1⟩, by omega, by go_num, ⟨?_⟩, ⟨?_⟩⟩
            · rw [rnds, ← Hs.out, E.out.1, E.out.2]
            · have := (HB.out.set h57 4 (d1 + X)).set h57 0 (X + Y)
              rw [mod_u2, mod_u2]
              have hl : ((up a1 b1 c1 d1 e1 f1 g1 h1 0).set 4 (d1 + X)).set 0 (X + Y) = (rnd k x ⟨a1, b1, c1, d1, e1, f1, g1, h1⟩).list := by
                rw [rnd, EX.out.1, EX.out.2]; rfl
              rw [hl] at this
              exact this
        · have k0 := HB.out.vs.cell (i := 0) (v := V a1) rfl
          have k1 := HB.out.vs.cell (i := 1) (v := V b1) rfl
          have kf := HB.out.vs.free 1 none
          unfold V at k0 k1
          go_wp2
          refine ⟨⟨0, by omega, rfl, ⟨HB.out.set h57 1 a1⟩⟩, by simp [intOf]⟩
        · have k0 := HB.out.vs.cell (i := 1) (v := V b1) rfl
          have k1 := HB.out.vs.cell (i := 2) (v := V c1) rfl
          have kf := HB.out.vs.free 2 none
          unfold V at k0 k1
          go_wp2
          refine ⟨⟨1, by omega, rfl, ⟨HB.out.set h57 2 b1⟩⟩, by simp [intOf]⟩
        · have k0 := HB.out.vs.cell (i := 2) (v := V c1) rfl
          have k1 := HB.out.vs.cell (i := 3) (v := V d1) rfl
          have kf := HB.out.vs.free 3 none
          unfold V at k0 k1
          go_wp2
          refine ⟨⟨2, by omega, rfl, ⟨HB.out.set h57 3 c1⟩⟩, by simp [intOf]⟩
        · have k0 := HB.out.vs.cell (i := 3) (v := V d1) rfl
          have k1 := HB.out.vs.cell (i := 4) (v := V e1) rfl
          have kf := HB.out.vs.free 4 none
          unfold V at k0 k1
          go_wp2
          refine ⟨⟨3, by omega, rfl, ⟨HB.out.set h57 4 d1⟩⟩, by simp [intOf]⟩
        · have k0 := HB.out.vs.cell (i := 4) (v := V e1) rfl
          have k1 := HB.out.vs.cell (i := 5) (v := V f1) rfl
          have kf := HB.out.vs.free 5 none
          unfold V at k0 k1
          go_wp2
          refine ⟨⟨4, by omega, rfl, ⟨HB.out.set h57 5 e1⟩⟩, by simp [intOf]⟩
        · have k0 := HB.out.vs.cell (i := 5) (v := V f1) rfl
          have k1 := HB.out.vs.cell (i := 6) (v := V g1) rfl
          have kf := HB.out.vs.free 6 none
          unfold V at k0 k1
          go_wp2
          refine ⟨⟨5, by omega, rfl, ⟨HB.out.set h57 6 f1⟩⟩, by simp [intOf]⟩
        · have k0 := HB.out.vs.cell (i := 6) (v := V g1) rfl
          have k1 := HB.out.vs.cell (i := 7) (v := V h1) rfl
          have kf := HB.out.vs.free 7 none
          unfold V at k0 k1
          go_wp2
          refine ⟨⟨6, by omega, rfl, ⟨HB.out.set h57 7 g1⟩⟩, by simp [intOf]⟩
    · have : t = 64 := by omega
      subst this
      obtain ⟨a1, b1, c1, d1, e1, f1, g1, h1⟩ := s
      go_wp2
      go_loopw [14] (fun v14 wr => ∃ i : Nat, i ≤ 8 ∧ v14 = .int .i64 i ∧ As (Row wr w.heap.size 121 ((mix [a, b, c, d, e, f, g, z] [a1, b1, c1, d1, e1, f1, g1, h1] i).map V)) ∧ As (Row wr (w.heap.size + 1) 121 (List.replicate 8 (V 0))) ∧ As (Row wr b7 121 (([a1, b1, c1, d1, e1, f1, g1, h1] : List W).map V)) ∧ As (Below w.heap.size w wr)) (fun v14 _ => 8 - (intOf v14).toNat)
      case atStart => exact ⟨0, by omega, rfl, ⟨HB.out.h⟩, ⟨HB.out.res⟩, ⟨HB.out.vs⟩, ⟨HB.out.below⟩⟩
      case round =>
        clear HB
        obtain ⟨i, hi, rfl, hH, hX, hV, hB⟩ := hrel
        rcases (show i = 0 ∨ i = 1 ∨ i = 2 ∨ i = 3 ∨ i = 4 ∨ i = 5 ∨ i = 6 ∨ i = 7 ∨ i = 8 by omega) with rfl | rfl | rfl | rfl | rfl | rfl | rfl | rfl | rfl
        · have k0 := hH.out.cell (i := 0) (v := V a) rfl
          have k1 := hV.out.cell (i := 0) (v := V a1) rfl
          have kf := hH.out.free 0 none
          unfold V at k0 k1
          go_wp2
          refine QTail.wp_region_lit 9 (by kernel_rfl) (by kernel_rfl) ?_
          simp only [List.take_succ_cons, List.take_zero, List.drop_succ_cons, List.drop_zero]
          repeat (go_big_quiet_step (fail))
          refine wpQuiet_nil ?_
          intro _ hw'
          obtain ⟨nq, rfl⟩ := hw'
          go_wp2
          refine ⟨⟨1, by omega, rfl, ⟨?_⟩, ⟨(hX.out.drewN nq).set_ne (by simp) _⟩, ⟨(hV.out.drewN nq).set_ne (by simp; omega) _⟩, ⟨(Blk.pw_drewN hB.out nq).setCell (by simp) _⟩⟩, by simp [intOf]⟩
          rw [mod_u2]
          exact (hH.out.drewN nq).set 0 (V (a + a1))
        · have k0 := hH.out.cell (i := 1) (v := V b) rfl
          have k1 := hV.out.cell (i := 1) (v := V b1) rfl
          have kf := hH.out.free 1 none
          unfold V at k0 k1
          go_wp2
          refine QTail.wp_region_lit 9 (by kernel_rfl) (by kernel_rfl) ?_
          simp only [List.take_succ_cons, List.take_zero, List.drop_succ_cons, List.drop_zero]
          repeat (go_big_quiet_step (fail))
          refine wpQuiet_nil ?_
          intro _ hw'
          obtain ⟨nq, rfl⟩ := hw'
          go_wp2
          refine ⟨⟨2, by omega, rfl, ⟨?_⟩, ⟨(hX.out.drewN nq).set_ne (by simp) _⟩, ⟨(hV.out.drewN nq).set_ne (by simp; omega) _⟩, ⟨(Blk.pw_drewN hB.out nq).setCell (by simp) _⟩⟩, by simp [intOf]⟩
          rw [mod_u2]
          exact (hH.out.drewN nq).set 1 (V (b + b1))
        · have k0 := hH.out.cell (i := 2) (v := V c) rfl
          have k1 := hV.out.cell (i := 2) (v := V c1) rfl
          have kf := hH.out.free 2 none
          unfold V at k0 k1
          go_wp2
          refine QTail.wp_region_lit 9 (by kernel_rfl) (by kernel_rfl) ?_
          simp only [List.take_succ_cons, List.take_zero, List.drop_succ_cons, List.drop_zero]
          repeat (go_big_quiet_step (fail))
          refine wpQuiet_nil ?_
          intro _ hw'
          obtain ⟨nq, rfl⟩ := hw'
          go_wp2
          refine ⟨⟨3, by omega, rfl, ⟨?_⟩, ⟨(hX.out.drewN nq).set_ne (by simp) _⟩, ⟨(hV.out.drewN nq).set_ne (by simp; omega) _⟩, ⟨(Blk.pw_drewN hB.out nq).setCell (by simp) _⟩⟩, by simp [intOf]⟩
          rw [mod_u2]
          exact (hH.out.drewN nq).set 2 (V (c + c1))
        · have k0 := hH.out.cell (i := 3) (v := V d) rfl
          have k1 := hV.out.cell (i := 3) (v := V d1) rfl
          have kf := hH.out.free 3 none
          unfold V at k0 k1
          go_wp2
          refine QTail.wp_region_lit 9 (by kernel_rfl) (by kernel_rfl) ?_
          simp only [List.take_succ_cons, List.take_zero, List.drop_succ_cons, List.drop_zero]
          repeat (go_big_quiet_step (fail))
          refine wpQuiet_nil ?_
          intro _ hw'
          obtain ⟨nq, rfl⟩ := hw'
          go_wp2
          refine ⟨⟨4, by omega, rfl, ⟨?_⟩, ⟨(hX.out.drewN nq).set_ne (by simp) _⟩, ⟨(hV.out.drewN nq).set_ne (by simp; omega) _⟩, ⟨(Blk.pw_drewN hB.out nq).setCell (by simp) _⟩⟩, by simp [intOf]⟩
          rw [mod_u2]
          exact (hH.out.drewN nq).set 3 (V (d + d1))
        · have k0 := hH.out.cell (i := 4) (v := V e) rfl
          have k1 := hV.out.cell (i := 4) (v := V e1) rfl
          have kf := hH.out.free 4 none
          unfold V at k0 k1
          go_wp2
          refine QTail.wp_region_lit 9 (by kernel_rfl) (by kernel_rfl) ?_
          simp only [List.take_succ_cons, List.take_zero, List.drop_succ_cons, List.drop_zero]
          repeat (go_big_quiet_step (fail))
          refine wpQuiet_nil ?_
          intro _ hw'
          obtain ⟨nq, rfl⟩ := hw'
          go_wp2
          refine ⟨⟨5, by omega, rfl, ⟨?_⟩, ⟨(hX.out.drewN nq).set_ne (by simp) _⟩, ⟨(hV.out.drewN nq).set_ne (by simp; omega) _⟩, ⟨(Blk.pw_drewN hB.out nq).setCell (by simp) _⟩⟩, by simp [intOf]⟩
          rw [mod_u2]
          exact (hH.out.drewN nq).set 4 (V (e + e1))
        · have k0 := hH.out.cell (i := 5) (v := V f) rfl
          have k1 := hV.out.cell (i := 5) (v := V f1) rfl
          have kf := hH.out.free 5 none
          unfold V at k0 k1
          go_wp2
          refine QTail.wp_region_lit 9 (by kernel_rfl) (by kernel_rfl) ?_
          simp only [List.take_succ_cons, List.take_zero, List.drop_succ_cons, List.drop_zero]
          repeat (go_big_quiet_step (fail))
          refine wpQuiet_nil ?_
          intro _ hw'
          obtain ⟨nq, rfl⟩ := hw'
          go_wp2
          refine ⟨⟨6, by omega, rfl, ⟨?_⟩, ⟨(hX.out.drewN nq).set_ne (by simp) _⟩, ⟨(hV.out.drewN nq).set_ne (by simp; omega) _⟩, ⟨(Blk.pw_drewN hB.out nq).setCell (by simp) _⟩⟩, by simp [intOf]⟩
          rw [mod_u2]
          exact (hH.out.drewN nq).set 5 (V (f + f1))
        · have k0 := hH.out.cell (i := 6) (v := V g) rfl
          have k1 := hV.out.cell (i := 6) (v := V g1) rfl
          have kf := hH.out.free 6 none
          unfold V at k0 k1
          go_wp2
          refine QTail.wp_region_lit 9 (by kernel_rfl) (by kernel_rfl) ?_
          simp only [List.take_succ_cons, List.take_zero, List.drop_succ_cons, List.drop_zero]
          repeat (go_big_quiet_step (fail))
          refine wpQuiet_nil ?_
          intro _ hw'
          obtain ⟨nq, rfl⟩ := hw'
          go_wp2
          refine ⟨⟨7, by omega, rfl, ⟨?_⟩, ⟨(hX.out.drewN nq).set_ne (by simp) _⟩, ⟨(hV.out.drewN nq).set_ne (by simp; omega) _⟩, ⟨(Blk.pw_drewN hB.out nq).setCell (by simp) _⟩⟩, by simp [intOf]⟩
          rw [mod_u2]
          exact (hH.out.drewN nq).set 6 (V (g + g1))
        · have k0 := hH.out.cell (i := 7) (v := V z) rfl
          have k1 := hV.out.cell (i := 7) (v := V h1) rfl
          have kf := hH.out.free 7 none
          unfold V at k0 k1
          go_wp2
          refine QTail.wp_region_lit 9 (by kernel_rfl) (by kernel_rfl) ?_
          simp only [List.take_succ_cons, List.take_zero, List.drop_succ_cons, List.drop_zero]
          repeat (go_big_quiet_step (fail))
          refine wpQuiet_nil ?_
          intro _ hw'
          obtain ⟨nq, rfl⟩ := hw'
          go_wp2
          refine ⟨⟨8, by omega, rfl, ⟨?_⟩, ⟨(hX.out.drewN nq).set_ne (by simp) _⟩, ⟨(hV.out.drewN nq).set_ne (by simp; omega) _⟩, ⟨(Blk.pw_drewN hB.out nq).setCell (by simp) _⟩⟩, by simp [intOf]⟩
          rw [mod_u2]
          exact (hH.out.drewN nq).set 7 (V (z + h1))
        · have HL : As ((((mix [a, b, c, d, e, f, g, z] [a1, b1, c1, d1, e1, f1, g1, h1] 8).map V).toArray).size = 8) := ⟨rfl⟩
          go_wp2_with (first
            | (refine wpList_load_row rfl 121 (.tmp 2) rfl w.heap.size rfl 121 _ (0, 0) _ hH.out Tryz.underlying121 rfl (by rw [info_8, HL.out]) ?_)
            | (refine wpList_store_row rfl 121 (.tmp 4) (.tmp 123) rfl (w.heap.size + 1) ((mix [a, b, c, d, e, f, g, z] [a1, b1, c1, d1, e1, f1, g1, h1] 8).map V).toArray rfl rfl 121 _ hX.out (by rw [info_8, HL.out]) (by rw [HL.out]; rfl) (all_V _) ?_)
            | fail)
          refine bodyPost_ret (v := .agg ((mix [a, b, c, d, e, f, g, z] [a1, b1, c1, d1, e1, f1, g1, h1] 8).map V).toArray) (results_cell_row rfl _ _ (w.heap.size + 1) 121 _ (0, 0) _ rfl (setRow_heap _ _ _ _ _ _ hX.out) Tryz.underlying121 rfl (by rw [info_8, HL.out])) rfl ⟨?_, below_setRow hB.out (by omega) _⟩
          rw [blk, ← Hs.out]
          rfl
end Go.Proofs.YtehmhfbfgniekaaGreatDoor.Dg
namespace Go.Proofs.YtehmhfbfgniekaaGreatDoor.Dg
set_option linter.unusedVariables false
set_option linter.unusedSimpArgs false
open Go.RowKit Blk Go.Proofs.YtehmhfbfgniekaaGreatDoorW.PrintWords Go.Proofs.YtehmhfbfgniekaaGreatDoorW.PrintLast Go.Proofs.YtehmhfbfgniekaaGreatDoorW.PrintMore
structure Sr (w wr : World) : Prop where
  box : Row wr w.heap.size 101 (List.replicate 32 (.int .u8 0))
  below : Below w.heap.size w wr
theorem Sr.alloc {w wr : World} (h : Sr w wr) (o : Obj) : Sr w (wr.alloc o) := ⟨h.box.alloc o, h.below.alloc (below_size h.below) o⟩
theorem Sr.grown {w wr w1 : World} {v : Value} (h : Sr w wr) (hg : wr.grownBy w1 v.ownBlock) (hv : ∀ k, v.ownBlock = some k → w.heap.size < k) (hb : Below w.heap.size w w1) : Sr w w1 :=
  ⟨h.box.grown hg (fun e => by have := hv _ e; omega), hb⟩
theorem Sr.size {w wr : World} (h : Sr w wr) : w.heap.size < wr.heap.size := h.box.lt
theorem Sr.then {w wr w1 : World} (h : Sr w wr) (hb : Below wr.heap.size wr w1) : Sr w w1 := ⟨h.box.below' hb, h.below.trans (hb.mono h.below.size)⟩
theorem But.setRow (B g : Nat) (w : World) (cs : Array Value) : But B g w (w.setRow g cs) :=
  ⟨rfl, rfl, rfl, by simp, fun k hk hn => setRow_other w g k cs hn⟩
def inn (H : List W) (i k : Nat) (x : W) : List Int := (H.take i).flatMap be ++ (be x).take k ++ List.replicate (32 - 4 * i - k) 0
theorem inn_0 (H : List W) (i : Nat) (x : W) : inn H i 0 x = outp H i := by simp [inn, outp]
theorem be_len (H : List W) (i : Nat) (h : i ≤ H.length) : ((H.take i).flatMap be).length = 4 * i := by
  have : ∀ L : List W, (L.flatMap be).length = 4 * L.length := by
    intro L
    induction L with
    | nil => rfl
    | cons a L ih => simp [be] at ih ⊢; omega
  rw [this, List.length_take]; omega
theorem pre_len (H : List W) (i k : Nat) (x : W) (h : i ≤ H.length) (hk : k ≤ 4) : ((H.take i).flatMap be ++ (be x).take k).length = 4 * i + k := by
  rw [List.length_append, be_len H i h, List.length_take]
  simp [be]; omega
theorem inn_at (H : List W) (i k : Nat) (x : W) (h : i ≤ H.length) (hi : i < 8) (hk : k < 4) : ((inn H i k x).map (Value.int .u8))[4 * i + k]? = some (.int .u8 0) := by
  rw [inn, List.getElem?_map, List.getElem?_append_right (by rw [pre_len H i k x h (by omega)]; omega), pre_len H i k x h (by omega)]
  simp [show 0 < 32 - 4 * i - k by omega]
theorem inn_set (H : List W) (i k : Nat) (x : W) (h : i ≤ H.length) (hi : i < 8) (hk : k < 4) (n : Int) (hn : n = (be x).getD k 0) :
    ((inn H i k x).map (Value.int .u8)).set (4 * i + k) (.int .u8 n) = (inn H i (k + 1) x).map (Value.int .u8) := by
  subst hn
  rw [← List.map_set]
  congr 1
  unfold inn
  rw [show 32 - 4 * i - k = (32 - 4 * i - (k + 1)) + 1 by omega, List.replicate_succ]
  rw [List.set_append_right _ _ (by rw [pre_len H i k x h (by omega)]; omega), pre_len H i k x h (by omega), Nat.sub_self, List.set_cons_zero]
  have hb : k < (be x).length := by simpa [be] using hk
  have hg : (be x).getD k 0 = (be x)[k] := by simp [hb]
  rw [hg, List.take_succ_eq_append_getElem hb]
  simp only [List.append_assoc, List.cons_append, List.nil_append]
theorem inn_4 (H : List W) (i : Nat) (x : W) (h : i < H.length) (hx : H.getD i 0 = x) : inn H i 4 x = outp H (i + 1) := by
  unfold inn outp
  rw [List.take_succ_eq_append_getElem h, List.flatMap_append]
  have : H[i] = x := by simpa [h] using hx
  rw [this]
  simp [be]
  rw [show 32 - 4 * i - 4 = 32 - 4 * (i + 1) by omega]
def shaR (l : List Int) : List Int := outp (runs ((padded l l.length).length / 64) (padded l l.length) IV) 8
def IL : Array Value := #[.int .u32 1779033703, .int .u32 3144134277, .int .u32 1013904242, .int .u32 2773480762, .int .u32 1359893119, .int .u32 2600822924, .int .u32 528734635, .int .u32 1541459225]
theorem IL_eq : IL = (IV.map V).toArray := by rw [IV_eq]; rfl
set_option maxHeartbeats 8000000 in
set_option maxRecDepth 100000 in
theorem rsum_calls (A : Option Addr) (c : Nat) (l : List Int) (w : World) (hC : (Kd.int .u8).C w A l.length l) (hc : l.length ≤ c) (hl : l.length ≤ 1099511627776) (h8 : ∀ x ∈ l, 0 ≤ x ∧ x < 256) :
    Calls Tryz.prog 60 #[.slice A l.length c] w fun e w' => e = .returned (.agg ((shaR l).map (Value.int .u8)).toArray) ∧ Below w.heap.size w w' := by
  have HC := As.mk hC
  have H8 := As.mk h8
  have hz := zero_32
  have hz8 := zero_8
  clear hC h8
  have hS0 : Sr w (w.alloc (.cells Z32 101)) := ⟨Row.new w (List.replicate 32 (.int .u8 0)) 101, (Below.refl _ _).alloc (Nat.le_refl _) _⟩
  have hE0 := own_empty' (w.alloc (.cells Z32 101)) w.heap.size w.heap.size (by simp) hS0.size
  rw [show (w.alloc (.cells Z32 101)).heap.size = w.heap.size + 1 from by simp] at hE0
  have hE := As.mk hE0
  clear hE0
  have HS := As.mk (hS0.alloc (.cells #[] 5))
  have hCr := As.mk (Kd.C_below HC.out HS.out.below)
  clear hS0
  go_enter Tryz.func60, Tryz.ntmps60
  go_wp2_with (first
    | ((with_reducible refine gate_builtin (b := .append) (xs := #[.tmp 11, .tmp 12]) rfl ?_); at_builtin; refine Kd.R_append_rows (Kd.int .u8) (Rr := (Kd.int .u8).K ((w.alloc (.cells Z32 101)).alloc (.cells #[] 5))) (w0 := w) w.heap.size rfl (.tmp 11) (.tmp 12) 80 5 (.int .u8 0) 1 rfl Tryz.underlying80 info_u8 rfl (by decide) (by omega) _ [] l A l.length c (fun k => w.heap.size < k) (fun _ => False) rfl rfl hE.out hCr.out (fun _ _ h => h) (fun _ hk => hk.elim) (fun k hk => Nat.lt_of_lt_of_le HS.out.size hk) HS.out.below (below_size HS.out.below) (by simp; omega) ?_; intro v1 w1 ho hb1 hg hat; have HO := As.mk ho; have HS1 := As.mk (HS.out.grown hg hE.out.1 hb1); clear ho hb1 hat hg)
    | ((with_reducible refine gate_builtin (b := .append) (xs := #[.tmp 13, .tmp 14]) rfl ?_); at_builtin; refine Kd.R_append (Kd.int .u8) (w0 := w) w.heap.size rfl (.tmp 13) (.tmp 14) 80 5 (.int .u8 0) 1 rfl Tryz.underlying80 info_u8 rfl (by decide) (by omega) _ ([] ++ l) 128 [.int .u8 128] (fun k => w.heap.size < k) (fun _ => False) rfl rfl rfl (fun _ hk => hk.elim) (fun k hk => Nat.lt_of_lt_of_le HS1.out.size hk) HO.out HS1.out.below (below_size HS1.out.below) (by simp; omega) ?_; intro v2 w2 ho hb1 hg hat; have HO2 := As.mk ho; have HS2 := As.mk (HS1.out.grown hg HO.out.1 hb1); clear ho hb1 hat hg)
    | fail)
  clear HS HS1 HO hE hCr
  rw [List.nil_append] at HO2
  go_loopw [3] (fun v3 wr => ∃ z : Nat, z ≤ zs l.length ∧ As (Own wr w.heap.size w.heap.size v3 (l ++ [128] ++ List.replicate z 0)) ∧ As (Sr w wr)) (fun v3 _ => (120 - lenOf v3 % 64) % 64)
  case atStart => exact ⟨0, Nat.zero_le _, by simpa using HO2, HS2⟩
  case round =>
    clear HO2 HS2
    obtain ⟨z, hz', HO, HS⟩ := hrel
    obtain ⟨A5, c5, rfl, hc5, hC5⟩ := Kd.R_reads HO.out
    have hn : (l ++ [128] ++ List.replicate z 0).length = l.length + 1 + z := by simp; omega
    have HC5 := As.mk hC5
    clear hC5
    obtain ⟨xs, hxs⟩ : ∃ xs, l ++ [128] ++ List.replicate z 0 = xs := ⟨_, rfl⟩
    rw [hxs] at HO hc5 HC5 hn ⊢
    obtain ⟨n, hnn⟩ : ∃ n, xs.length = n := ⟨_, rfl⟩
    rw [hnn] at HO hc5 HC5 hn ⊢
    have hzs : zs l.length = (119 - l.length % 64) % 64 := rfl
    have hz64 : z < 64 := by omega
    by_cases hlt : z < zs l.length
    · have ht : ((n : Int) % 64 != 56) = true := by rw [bne_iff_ne]; omega
      have Hxs := As.mk hxs
      have Hn := As.mk hnn
      clear hxs hnn hzs
      go_wp2_with (first
        | ((with_reducible refine gate_builtin (b := .append) (xs := #[.tmp 20, .tmp 21]) rfl ?_); at_builtin; refine Kd.R_append (Kd.int .u8) (w0 := w) w.heap.size rfl (.tmp 20) (.tmp 21) 80 5 (.int .u8 0) 1 rfl Tryz.underlying80 info_u8 rfl (by decide) (by omega) _ xs 0 [.int .u8 0] (fun k => w.heap.size < k) (fun _ => False) rfl rfl rfl (fun _ hk => hk.elim) (fun k hk => Nat.lt_of_lt_of_le HS.out.size hk) HO.out HS.out.below (below_size HS.out.below) (by rw [Hn.out]; omega) ?_; intro v2 w2 ho hb1 hg hat; have HO2 := As.mk ho; have HS2 := As.mk (HS.out.grown hg HO.out.1 hb1); clear ho hb1 hat hg)
        | fail)
      obtain ⟨A6, c6, rfl, hc6, hC6⟩ := Kd.R_reads HO2.out
      have hl6 : (xs ++ [0]).length = n + 1 := by simp [Hn.out]
      refine ⟨⟨z + 1, by omega, ?_, HS2⟩, ?_⟩
      · rw [List.replicate_succ', ← List.append_assoc, Hxs.out]; exact HO2
      · simp only [lenOf, hl6]; have : zs l.length = (119 - l.length % 64) % 64 := rfl
        omega
    · have ht : ((n : Int) % 64 != 56) = false := by rw [bne_eq_false_iff_eq]; omega
      have hzz : z = zs l.length := by omega
      have Hxs := As.mk hxs
      have Hn := As.mk hnn
      have Hzz := As.mk hzz
      have Hn2 := As.mk hn
      have hnb : n ≤ 1099511628000 := by omega
      clear hxs hnn hzs hzz hn
      go_wp2
      clear ht
      go_loopw [3, 5] (fun v3 v5 wr => ∃ (k : Nat) (q : Int), (k, q) ∈ [(0, (7 : Int)), (1, 6), (2, 5), (3, 4), (4, 3), (5, 2), (6, 1), (7, 0), (8, -1)] ∧ v5 = .int .i64 q ∧ As (Own wr w.heap.size w.heap.size v3 (xs ++ (lenb l.length).take k)) ∧ As (Sr w wr)) (fun _ v5 _ => (intOf v5 + 1).toNat)
      case atStart => exact ⟨0, 7, by decide, rfl, by simpa using HO, HS⟩
      case round =>
        clear HO HS HC5
        obtain ⟨k, q, hk, rfl, HO, HS⟩ := hrel
        simp only [List.mem_cons, Prod.mk.injEq, List.not_mem_nil, or_false] at hk
        rcases hk with ⟨rfl, rfl⟩ | ⟨rfl, rfl⟩ | ⟨rfl, rfl⟩ | ⟨rfl, rfl⟩ | ⟨rfl, rfl⟩ | ⟨rfl, rfl⟩ | ⟨rfl, rfl⟩ | ⟨rfl, rfl⟩ | ⟨rfl, rfl⟩
        · go_wp2_with (first
            | ((with_reducible refine gate_builtin (b := .append) (xs := #[.tmp 31, .tmp 37]) rfl ?_); at_builtin; refine Kd.R_append (Kd.int .u8) (w0 := w) w.heap.size rfl (.tmp 31) (.tmp 37) 80 5 (.int .u8 0) 1 rfl Tryz.underlying80 info_u8 rfl (by decide) (by omega) _ (xs ++ (lenb l.length).take 0) _ [.int .u8 _] (fun k => w.heap.size < k) (fun _ => False) rfl rfl rfl (fun _ hk => hk.elim) (fun k hk => Nat.lt_of_lt_of_le HS.out.size hk) HO.out HS.out.below (below_size HS.out.below) (by simp [Hn.out, lenb]; omega) ?_; intro v2 w2 ho hb1 hg hat; have HO2 := As.mk ho; have HS2 := As.mk (HS.out.grown hg HO.out.1 hb1); clear ho hb1 hat hg)
            | fail)
          go_roundw
          case measure => simp [intOf]
          case rel =>
            refine ⟨1, 6, by decide, rfl, ⟨cast (congrArg (Own _ _ _ _) ?_) HO2.out⟩, HS2⟩
            rw [List.append_assoc]
            congr 1
            simp only [lenb, List.map_cons, List.map_nil, List.take_succ_cons, List.take_zero, List.nil_append, List.cons_append, List.cons.injEq, true_and, and_true, Nat.reducePow]
            omega
        · go_wp2_with (first
            | ((with_reducible refine gate_builtin (b := .append) (xs := #[.tmp 31, .tmp 37]) rfl ?_); at_builtin; refine Kd.R_append (Kd.int .u8) (w0 := w) w.heap.size rfl (.tmp 31) (.tmp 37) 80 5 (.int .u8 0) 1 rfl Tryz.underlying80 info_u8 rfl (by decide) (by omega) _ (xs ++ (lenb l.length).take 1) _ [.int .u8 _] (fun k => w.heap.size < k) (fun _ => False) rfl rfl rfl (fun _ hk => hk.elim) (fun k hk => Nat.lt_of_lt_of_le HS.out.size hk) HO.out HS.out.below (below_size HS.out.below) (by simp [Hn.out, lenb]; omega) ?_; intro v2 w2 ho hb1 hg hat; have HO2 := As.mk ho; have HS2 := As.mk (HS.out.grown hg HO.out.1 hb1); clear ho hb1 hat hg)
            | fail)
          go_roundw
          case measure => simp [intOf]
          case rel =>
            refine ⟨2, 5, by decide, rfl, ⟨cast (congrArg (Own _ _ _ _) ?_) HO2.out⟩, HS2⟩
            rw [List.append_assoc]
            congr 1
            simp only [lenb, List.map_cons, List.map_nil, List.take_succ_cons, List.take_zero, List.nil_append, List.cons_append, List.cons.injEq, true_and, and_true, Nat.reducePow]
            omega
        · go_wp2_with (first
            | ((with_reducible refine gate_builtin (b := .append) (xs := #[.tmp 31, .tmp 37]) rfl ?_); at_builtin; refine Kd.R_append (Kd.int .u8) (w0 := w) w.heap.size rfl (.tmp 31) (.tmp 37) 80 5 (.int .u8 0) 1 rfl Tryz.underlying80 info_u8 rfl (by decide) (by omega) _ (xs ++ (lenb l.length).take 2) _ [.int .u8 _] (fun k => w.heap.size < k) (fun _ => False) rfl rfl rfl (fun _ hk => hk.elim) (fun k hk => Nat.lt_of_lt_of_le HS.out.size hk) HO.out HS.out.below (below_size HS.out.below) (by simp [Hn.out, lenb]; omega) ?_; intro v2 w2 ho hb1 hg hat; have HO2 := As.mk ho; have HS2 := As.mk (HS.out.grown hg HO.out.1 hb1); clear ho hb1 hat hg)
            | fail)
          go_roundw
          case measure => simp [intOf]
          case rel =>
            refine ⟨3, 4, by decide, rfl, ⟨cast (congrArg (Own _ _ _ _) ?_) HO2.out⟩, HS2⟩
            rw [List.append_assoc]
            congr 1
            simp only [lenb, List.map_cons, List.map_nil, List.take_succ_cons, List.take_zero, List.nil_append, List.cons_append, List.cons.injEq, true_and, and_true, Nat.reducePow]
            omega
        · go_wp2_with (first
            | ((with_reducible refine gate_builtin (b := .append) (xs := #[.tmp 31, .tmp 37]) rfl ?_); at_builtin; refine Kd.R_append (Kd.int .u8) (w0 := w) w.heap.size rfl (.tmp 31) (.tmp 37) 80 5 (.int .u8 0) 1 rfl Tryz.underlying80 info_u8 rfl (by decide) (by omega) _ (xs ++ (lenb l.length).take 3) _ [.int .u8 _] (fun k => w.heap.size < k) (fun _ => False) rfl rfl rfl (fun _ hk => hk.elim) (fun k hk => Nat.lt_of_lt_of_le HS.out.size hk) HO.out HS.out.below (below_size HS.out.below) (by simp [Hn.out, lenb]; omega) ?_; intro v2 w2 ho hb1 hg hat; have HO2 := As.mk ho; have HS2 := As.mk (HS.out.grown hg HO.out.1 hb1); clear ho hb1 hat hg)
            | fail)
          go_roundw
          case measure => simp [intOf]
          case rel =>
            refine ⟨4, 3, by decide, rfl, ⟨cast (congrArg (Own _ _ _ _) ?_) HO2.out⟩, HS2⟩
            rw [List.append_assoc]
            congr 1
            simp only [lenb, List.map_cons, List.map_nil, List.take_succ_cons, List.take_zero, List.nil_append, List.cons_append, List.cons.injEq, true_and, and_true, Nat.reducePow]
            omega
        · go_wp2_with (first
            | ((with_reducible refine gate_builtin (b := .append) (xs := #[.tmp 31, .tmp 37]) rfl ?_); at_builtin; refine Kd.R_append (Kd.int .u8) (w0 := w) w.heap.size rfl (.tmp 31) (.tmp 37) 80 5 (.int .u8 0) 1 rfl Tryz.underlying80 info_u8 rfl (by decide) (by omega) _ (xs ++ (lenb l.length).take 4) _ [.int .u8 _] (fun k => w.heap.size < k) (fun _ => False) rfl rfl rfl (fun _ hk => hk.elim) (fun k hk => Nat.lt_of_lt_of_le HS.out.size hk) HO.out HS.out.below (below_size HS.out.below) (by simp [Hn.out, lenb]; omega) ?_; intro v2 w2 ho hb1 hg hat; have HO2 := As.mk ho; have HS2 := As.mk (HS.out.grown hg HO.out.1 hb1); clear ho hb1 hat hg)
            | fail)
          go_roundw
          case measure => simp [intOf]
          case rel =>
            refine ⟨5, 2, by decide, rfl, ⟨cast (congrArg (Own _ _ _ _) ?_) HO2.out⟩, HS2⟩
            rw [List.append_assoc]
            congr 1
            simp only [lenb, List.map_cons, List.map_nil, List.take_succ_cons, List.take_zero, List.nil_append, List.cons_append, List.cons.injEq, true_and, and_true, Nat.reducePow]
            omega
        · go_wp2_with (first
            | ((with_reducible refine gate_builtin (b := .append) (xs := #[.tmp 31, .tmp 37]) rfl ?_); at_builtin; refine Kd.R_append (Kd.int .u8) (w0 := w) w.heap.size rfl (.tmp 31) (.tmp 37) 80 5 (.int .u8 0) 1 rfl Tryz.underlying80 info_u8 rfl (by decide) (by omega) _ (xs ++ (lenb l.length).take 5) _ [.int .u8 _] (fun k => w.heap.size < k) (fun _ => False) rfl rfl rfl (fun _ hk => hk.elim) (fun k hk => Nat.lt_of_lt_of_le HS.out.size hk) HO.out HS.out.below (below_size HS.out.below) (by simp [Hn.out, lenb]; omega) ?_; intro v2 w2 ho hb1 hg hat; have HO2 := As.mk ho; have HS2 := As.mk (HS.out.grown hg HO.out.1 hb1); clear ho hb1 hat hg)
            | fail)
          go_roundw
          case measure => simp [intOf]
          case rel =>
            refine ⟨6, 1, by decide, rfl, ⟨cast (congrArg (Own _ _ _ _) ?_) HO2.out⟩, HS2⟩
            rw [List.append_assoc]
            congr 1
            simp only [lenb, List.map_cons, List.map_nil, List.take_succ_cons, List.take_zero, List.nil_append, List.cons_append, List.cons.injEq, true_and, and_true, Nat.reducePow]
            omega
        · go_wp2_with (first
            | ((with_reducible refine gate_builtin (b := .append) (xs := #[.tmp 31, .tmp 37]) rfl ?_); at_builtin; refine Kd.R_append (Kd.int .u8) (w0 := w) w.heap.size rfl (.tmp 31) (.tmp 37) 80 5 (.int .u8 0) 1 rfl Tryz.underlying80 info_u8 rfl (by decide) (by omega) _ (xs ++ (lenb l.length).take 6) _ [.int .u8 _] (fun k => w.heap.size < k) (fun _ => False) rfl rfl rfl (fun _ hk => hk.elim) (fun k hk => Nat.lt_of_lt_of_le HS.out.size hk) HO.out HS.out.below (below_size HS.out.below) (by simp [Hn.out, lenb]; omega) ?_; intro v2 w2 ho hb1 hg hat; have HO2 := As.mk ho; have HS2 := As.mk (HS.out.grown hg HO.out.1 hb1); clear ho hb1 hat hg)
            | fail)
          go_roundw
          case measure => simp [intOf]
          case rel =>
            refine ⟨7, 0, by decide, rfl, ⟨cast (congrArg (Own _ _ _ _) ?_) HO2.out⟩, HS2⟩
            rw [List.append_assoc]
            congr 1
            simp only [lenb, List.map_cons, List.map_nil, List.take_succ_cons, List.take_zero, List.nil_append, List.cons_append, List.cons.injEq, true_and, and_true, Nat.reducePow]
            omega
        · go_wp2_with (first
            | ((with_reducible refine gate_builtin (b := .append) (xs := #[.tmp 31, .tmp 37]) rfl ?_); at_builtin; refine Kd.R_append (Kd.int .u8) (w0 := w) w.heap.size rfl (.tmp 31) (.tmp 37) 80 5 (.int .u8 0) 1 rfl Tryz.underlying80 info_u8 rfl (by decide) (by omega) _ (xs ++ (lenb l.length).take 7) _ [.int .u8 _] (fun k => w.heap.size < k) (fun _ => False) rfl rfl rfl (fun _ hk => hk.elim) (fun k hk => Nat.lt_of_lt_of_le HS.out.size hk) HO.out HS.out.below (below_size HS.out.below) (by simp [Hn.out, lenb]; omega) ?_; intro v2 w2 ho hb1 hg hat; have HO2 := As.mk ho; have HS2 := As.mk (HS.out.grown hg HO.out.1 hb1); clear ho hb1 hat hg)
            | fail)
          go_roundw
          case measure => simp [intOf]
          case rel =>
            refine ⟨8, -1, by decide, rfl, ⟨cast (congrArg (Own _ _ _ _) ?_) HO2.out⟩, HS2⟩
            rw [List.append_assoc]
            congr 1
            simp only [lenb, List.map_cons, List.map_nil, List.take_succ_cons, List.take_zero, List.nil_append, List.cons_append, List.cons.injEq, true_and, and_true, Nat.reducePow]
            omega
        · have h8 : (lenb l.length).take 8 = lenb l.length := rfl
          rw [h8] at HO
          have hbo := Kd.R_bound HO.out
          obtain ⟨A6, c6, rfl, hc6, hC6⟩ := Kd.R_reads HO.out
          have hne6 : ∀ ad, A6 = some ad → w.heap.size < ad.block ∧ ad.block < wr.heap.size := by
            rintro ad rfl
            have := hbo.1 ad.block (by simp [Value.ownBlock])
            exact ⟨this.1, this.2.2.1⟩
          have hpd : xs ++ lenb l.length = padded l l.length := by rw [← Hxs.out, Hzz.out]; rfl
          rw [hpd] at hC6 hc6 HO
          rw [hpd]
          have hpl : (padded l l.length).length = n + 8 := by rw [← hpd]; simp [Hn.out, lenb]
          have hp64 : (padded l l.length).length % 64 = 0 := by
            have h1 := Hn2.out
            have h2 := Hzz.out
            have h3 : zs l.length = (119 - l.length % 64) % 64 := rfl
            omega
          have hp8 : ∀ x ∈ padded l l.length, 0 ≤ x ∧ x < 256 := by
            intro x hx
            simp only [padded, lenb, List.mem_append, List.mem_cons, List.not_mem_nil, or_false, List.mem_replicate, List.map_cons, List.map_nil] at hx
            rcases hx with ((hx | hx) | hx) | hx
            · exact H8.out x hx
            · omega
            · omega
            · omega
          obtain ⟨p, hpp⟩ : ∃ p, padded l l.length = p := ⟨_, rfl⟩
          rw [hpp] at hC6 hc6 hpl hp64 hp8 ⊢
          have HP := As.mk hpp
          have HPL := As.mk hpl
          have HP64 := As.mk hp64
          have HP8 := As.mk hp8
          have HC6 := As.mk hC6
          have HE6 := As.mk hne6
          have hpb : p.length ≤ 1099511628100 := by omega
          clear hpp hpl hp64 hp8 hC6 hne6 hbo HO h8 hpd
          have hk8 : As ((wr.alloc (.cells Z8 121)).heap[wr.heap.size]? = some (.cells Z8 121 (0, 0))) := ⟨Row.new wr (List.replicate 8 (V 0)) 121⟩
          go_wp2_with (first
            | (refine wpList_store_row rfl 121 (.tmp 6) (.tmp 39) rfl wr.heap.size IL rfl (by kernel_rfl) 121 _ hk8.out (by kernel_rfl) (by kernel_rfl) (by kernel_rfl) ?_)
            | fail)
          have hH : As (Row ((wr.alloc (.cells Z8 121)).setRow wr.heap.size IL) wr.heap.size 121 ((runs 0 p IV).map V)) := ⟨by
            have := setRow_heap (wr.alloc (.cells Z8 121)) wr.heap.size _ IL _ _ hk8.out
            unfold Row runs
            rw [this, IL_eq]⟩
          have hX : Below wr.heap.size wr ((wr.alloc (.cells Z8 121)).setRow wr.heap.size IL) := below_setRow ((Below.refl _ _).alloc (Nat.le_refl _) _) (Nat.le_refl _) _
          have hgh := HS.out.size
          have hS4 := As.mk (HS.out.then hX)
          have hC4 := As.mk (Kd.C_below HC6.out hX)
          clear hX hk8 HS HC6
          obtain ⟨gh, hgg⟩ : ∃ b, wr.heap.size = b := ⟨_, rfl⟩
          rw [hgg] at hH hS4 hC4 HE6 hgh ⊢
          obtain ⟨w4, hw4⟩ : ∃ x, ((wr.alloc (.cells Z8 121)).setRow gh IL) = x := ⟨_, rfl⟩
          rw [hw4] at hH hS4 hC4 ⊢
          clear hw4 hgg wr
          go_loopw [7] (fun v7 wr => ∃ k : Nat, 64 * k ≤ p.length ∧ v7 = .int .i64 (64 * k : Nat) ∧ As (Row wr gh 121 ((runs k p IV).map V)) ∧ As (Sr w wr) ∧ As ((Kd.int .u8).C wr A6 p.length p)) (fun v7 _ => p.length - (intOf v7).toNat)
          case atStart => exact ⟨0, by omega, rfl, hH, hS4, hC4⟩
          case round =>
            clear hH hS4 hC4 w4
            obtain ⟨k, hk, rfl, hH, hS, hC⟩ := hrel
            by_cases hlt : 64 * k < p.length
            · have h64 : 64 * k + 64 ≤ p.length := by have := HP64.out; omega
              obtain ⟨ad, rfl, _⟩ := Kd.at_int hC.out (0 : Int) (by omega) (by omega)
              have hmid := Kd.C_mid (lo := 64 * k) (hi := 64 * k + 64) hC.out (by omega) h64 hc6
              rw [if_neg (by omega)] at hmid
              have hml : ((p.take (64 * k + 64)).drop (64 * k)).length = 64 := by simp; omega
              rw [hml] at hmid
              have hme : (p.take (64 * k + 64)).drop (64 * k) = (p.drop (64 * k)).take 64 := by rw [List.drop_take]; congr 1; omega
              rw [hme] at hmid hml
              have HM := As.mk hmid
              have HML := As.mk hml
              clear hmid hml hme
              obtain ⟨q, hq⟩ : ∃ q : Nat, 64 * k = q := ⟨_, rfl⟩
              rw [hq] at hk hlt h64 HM HML ⊢
              have Hq := As.mk hq
              clear hq
              replace HM : As ((Kd.int .u8).C wr (some (ad.add q)) 64 ((p.drop q).take 64)) := ⟨by
                have h1 := HM.out
                have e : q * (Kd.int .u8).sz = q := Nat.mul_one q
                rw [Option.map_some, e] at h1
                exact h1⟩
              have h8m : ∀ x ∈ (p.drop q).take 64, 0 ≤ x ∧ x < 256 := fun x hx => HP8.out x (List.mem_of_mem_drop (List.mem_of_mem_take hx))
              have HM8 := As.mk h8m
              have hrl := runs_len k p IV IV_len
              have HRL := As.mk hrl
              have HRS : As (((runs k p IV).map V).toArray.size = 8) := ⟨by simp [hrl]⟩
              clear h8m hrl
              go_wp2
              refine QS.region_tail 7 (by kernel_rfl) (by kernel_rfl) ?_
              simp only [List.take_succ_cons, List.take_zero, List.drop_succ_cons, List.drop_zero]
              repeat (first
                | (go_big_quiet_step ((go_at_call 85; exact QS.quiet (block_calls _ _ _ _ _ HRL.out HML.out HM8.out (Kd.C_below HM.out (QS.S.below _))))))
                | (go_big_quiet_want; refine QS.quiet_run _ (fun x => QS.run_load_row 121 (.tmp 6) rfl gh rfl 121 ((runs k p IV).map V).toArray (0, 0) _ (hH.out.below' x.2) Tryz.underlying121 rfl (by rw [info_8, HRS.out])) ?_; go_simp; go_big_quiet_on))
              refine wpQuiet_nil ?_
              rintro _ ⟨x, rfl⟩
              have hbl := blk_len ((p.drop q).take 64) (runs k p IV) HRL.out
              have HBS : As (((blk KK ((p.drop q).take 64) (runs k p IV)).map V).toArray.size = 8) := ⟨by simp [hbl]⟩
              have hHx := As.mk (hH.out.below' x.below)
              have hSx := As.mk (hS.out.then x.below)
              have hCx := As.mk (Kd.C_below hC.out x.below)
              clear hbl
              go_wp2_with (first
                | (refine wpList_store_row rfl 121 (.tmp 6) (.tmp 52) rfl gh ((blk KK ((p.drop q).take 64) (runs k p IV)).map V).toArray rfl rfl 121 _ hHx.out (by rw [info_8, HBS.out]) (by rw [HBS.out]; exact HRS.out) (all_V _) ?_)
                | fail)
              refine ⟨⟨k + 1, by have := Hq.out; omega, by have := Hq.out; rw [show (64 * (k + 1) : Nat) = q + 64 by omega]; rfl, ⟨?_⟩, ⟨⟨hSx.out.box.setRow_ne (by omega) _, below_setRow hSx.out.below (by omega) _⟩⟩, ⟨C_but hCx.out (But.setRow x.val.heap.size gh x.val _) (fun ad' h => ⟨by have := (HE6.out ad' h).2; omega, by have h1 := (HE6.out ad' h).2; have h2 := hHx.out.lt; omega⟩)⟩⟩, by simp [intOf]; omega⟩
              have := setRow_heap x.val gh _ ((blk KK ((p.drop q).take 64) (runs k p IV)).map V).toArray _ _ hHx.out
              rw [runs_snoc, Hq.out]
              exact this
            · have hkk : k = p.length / 64 := by have := HP64.out; omega
              subst hkk
              obtain ⟨H, hHH⟩ : ∃ H, runs (p.length / 64) p IV = H := ⟨_, rfl⟩
              have hHl := runs_len (p.length / 64) p IV IV_len
              rw [hHH] at hH hHl
              have HHH := As.mk hHH
              have HHL := As.mk hHl
              clear hHH hHl
              go_wp2
              obtain ⟨wo, hwo⟩ : ∃ wo : World, wo = wr := ⟨_, rfl⟩
              subst hwo
              have hG : As (Row (wo.alloc (.cells Z32 101)) wo.heap.size 101 ((outp H 0).map (Value.int .u8))) := ⟨Row.new wo (List.replicate 32 (.int .u8 0)) 101⟩
              have hHa : As (Row (wo.alloc (.cells Z32 101)) gh 121 (H.map V)) := ⟨hH.out.alloc _⟩
              have hSa : As (Sr w (wo.alloc (.cells Z32 101))) := ⟨hS.out.alloc _⟩
              have hgo : gh < wo.heap.size ∧ w.heap.size < gh := ⟨hH.out.lt, hgh⟩
              clear hH hS hC
              go_loopw [9] (fun v9 wr => ∃ i : Nat, i ≤ 8 ∧ v9 = .int .i64 i ∧ As (Row wr wo.heap.size 101 ((outp H i).map (Value.int .u8))) ∧ As (Row wr gh 121 (H.map V)) ∧ As (Sr w wr)) (fun v9 _ => 8 - (intOf v9).toNat)
              case atStart => exact ⟨0, by omega, rfl, hG, hHa, hSa⟩
              case round =>
                clear hG hHa hSa
                obtain ⟨i, hi, rfl, hG, hHa, hSa⟩ := hrel
                by_cases hi8 : i < 8
                · have hcell := hHa.out.cell (i := i) (v := V (H.getD i 0)) (by
                    have : i < H.length := by rw [HHL.out]; exact hi8
                    simp [this])
                  obtain ⟨x, hx⟩ : ∃ x, H.getD i 0 = x := ⟨_, rfl⟩
                  rw [hx] at hcell
                  have HX := As.mk hx
                  have HCL := As.mk hcell
                  clear hx hcell
                  go_wp2
                  go_loopw [10] (fun v10 wr => ∃ k : Nat, k ≤ 4 ∧ v10 = .int .i64 k ∧ As (Row wr wo.heap.size 101 ((inn H i k x).map (Value.int .u8))) ∧ As (Row wr gh 121 (H.map V)) ∧ As (Sr w wr)) (fun v10 _ => 4 - (intOf v10).toNat)
                  case atStart => exact ⟨0, by omega, rfl, ⟨by rw [inn_0]; exact hG.out⟩, hHa, hSa⟩
                  case round =>
                    clear hG hHa hSa HCL
                    obtain ⟨k, hk, rfl, hG, hHa, hSa⟩ := hrel
                    have hcell := hHa.out.cell (i := i) (v := V x) (by
                      rw [← HX.out]
                      have : i < H.length := by rw [HHL.out]; exact hi8
                      simp [this])
                    unfold V at hcell
                    rcases (show k = 0 ∨ k = 1 ∨ k = 2 ∨ k = 3 ∨ k = 4 by omega) with rfl | rfl | rfl | rfl | rfl
                    · have hk0 := hG.out.cell (i := 4 * i) (v := .int .u8 0) (inn_at H i 0 x (by rw [HHL.out]; omega) hi8 (by decide))
                      have hkf := hG.out.free (4 * i) none
                      go_wp2
                      refine ⟨⟨1, by omega, rfl, ⟨?_⟩, ⟨hHa.out.set_ne (by simp; omega) _⟩, ⟨⟨hSa.out.box.set_ne (by simp; omega) _, hSa.out.below.setCell (by simp; omega) _⟩⟩⟩, by simp [intOf]⟩
                      rw [← inn_set H i 0 x (by rw [HHL.out]; omega) hi8 (by decide) _ rfl]
                      exact hG.out.set (4 * i) _
                    · have hk0 := hG.out.cell (i := 4 * i + 1) (v := .int .u8 0) (inn_at H i 1 x (by rw [HHL.out]; omega) hi8 (by decide))
                      have hkf := hG.out.free (4 * i + 1) none
                      go_wp2
                      refine ⟨⟨2, by omega, rfl, ⟨?_⟩, ⟨hHa.out.set_ne (by simp; omega) _⟩, ⟨⟨hSa.out.box.set_ne (by simp; omega) _, hSa.out.below.setCell (by simp; omega) _⟩⟩⟩, by simp [intOf]⟩
                      rw [← inn_set H i 1 x (by rw [HHL.out]; omega) hi8 (by decide) _ rfl]
                      exact hG.out.set (4 * i + 1) _
                    · have hk0 := hG.out.cell (i := 4 * i + 2) (v := .int .u8 0) (inn_at H i 2 x (by rw [HHL.out]; omega) hi8 (by decide))
                      have hkf := hG.out.free (4 * i + 2) none
                      go_wp2
                      refine ⟨⟨3, by omega, rfl, ⟨?_⟩, ⟨hHa.out.set_ne (by simp; omega) _⟩, ⟨⟨hSa.out.box.set_ne (by simp; omega) _, hSa.out.below.setCell (by simp; omega) _⟩⟩⟩, by simp [intOf]⟩
                      rw [← inn_set H i 2 x (by rw [HHL.out]; omega) hi8 (by decide) _ rfl]
                      exact hG.out.set (4 * i + 2) _
                    · have hk0 := hG.out.cell (i := 4 * i + 3) (v := .int .u8 0) (inn_at H i 3 x (by rw [HHL.out]; omega) hi8 (by decide))
                      have hkf := hG.out.free (4 * i + 3) none
                      go_wp2
                      refine ⟨⟨4, by omega, rfl, ⟨?_⟩, ⟨hHa.out.set_ne (by simp; omega) _⟩, ⟨⟨hSa.out.box.set_ne (by simp; omega) _, hSa.out.below.setCell (by simp; omega) _⟩⟩⟩, by simp [intOf]⟩
                      rw [← inn_set H i 3 x (by rw [HHL.out]; omega) hi8 (by decide) _ rfl]
                      exact hG.out.set (4 * i + 3) _
                    · go_wp2
                      refine ⟨⟨i + 1, by omega, by go_num, ⟨?_⟩, hHa, hSa⟩, by simp [intOf]; omega⟩
                      rw [← inn_4 H i x (by rw [HHL.out]; exact hi8) HX.out]
                      exact hG.out
                · have : i = 8 := by omega
                  subst this
                  have hol := outp_len8 H HHL.out
                  have HOS : As ((((outp H 8).map (Value.int .u8)).toArray).size = 32) := ⟨by simp [hol]⟩
                  go_wp2_with (first
                    | (refine wpList_load_row rfl 101 (.tmp 8) rfl wo.heap.size rfl 101 _ (0, 0) _ hG.out Tryz.underlying101 rfl (by rw [info_32, HOS.out]) ?_)
                    | (refine wpList_store_row rfl 101 (.tmp 2) (.tmp 74) rfl w.heap.size ((outp H 8).map (Value.int .u8)).toArray rfl rfl 101 _ hSa.out.box (by rw [info_32, HOS.out]) (by rw [HOS.out]; rfl) (all_u8 _) ?_)
                    | fail)
                  refine bodyPost_ret (v := .agg ((outp H 8).map (Value.int .u8)).toArray) (results_cell_row rfl _ _ w.heap.size 101 _ (0, 0) _ rfl (setRow_heap _ _ _ _ _ _ hSa.out.box) Tryz.underlying101 rfl (by rw [info_32, HOS.out])) rfl ⟨?_, below_setRow hSa.out.below (Nat.le_refl _) _⟩
                  rw [shaR, HP.out, HHH.out]
end Go.Proofs.YtehmhfbfgniekaaGreatDoor.Dg
namespace Go.Proofs.YtehmhfbfgniekaaGreatDoor.Dg
set_option linter.unusedVariables false
set_option linter.unusedSimpArgs false
open Go.RowKit Blk Go.Proofs.YtehmhfbfgniekaaGreatDoorW.PrintWords Go.Proofs.YtehmhfbfgniekaaGreatDoorW.PrintLast Go.Proofs.YtehmhfbfgniekaaGreatDoorW.PrintMore
theorem runs_add (a b : Nat) : ∀ (l : List Int) (H : List W), runs (a + b) l H = runs b (l.drop (64 * a)) (runs a l H) := by
  induction a with
  | zero => intro l H; simp [runs]
  | succ a ih =>
    intro l H
    rw [show a + 1 + b = (a + b) + 1 by omega, runs, ih, runs, List.drop_drop, show 64 + 64 * a = 64 * (a + 1) by omega]
theorem runs_append (n : Nat) : ∀ (l t : List Int) (H : List W), 64 * n ≤ l.length → runs n (l ++ t) H = runs n l H := by
  induction n with
  | zero => intro l t H h; rfl
  | succ n ih =>
    intro l t H h
    rw [runs, runs, List.drop_append_of_le_length (by omega), List.take_append_of_le_length (by omega)]
    exact ih _ _ _ (by simp; omega)
theorem shaR_eq (l : List Int) : shaR l = shaL l := by
  unfold shaR shaL
  congr 1
  have hd : (padded l l.length).drop (64 * (l.length / 64)) = padded (l.drop (64 * (l.length / 64))) l.length := by
    unfold padded
    rw [List.append_assoc, List.append_assoc, List.drop_append_of_le_length (by omega), List.append_assoc, List.append_assoc]
  have hlen : (padded l l.length).length = 64 * (l.length / 64) + (padded (l.drop (64 * (l.length / 64))) l.length).length := by
    rw [← hd, List.length_drop]
    have : l.length ≤ (padded l l.length).length := by simp [padded]
    omega
  have h1 : (padded l l.length).length / 64 = l.length / 64 + (padded (l.drop (64 * (l.length / 64))) l.length).length / 64 := by omega
  rw [h1, runs_add, hd]
  congr 1
  have : padded l l.length = l ++ ([128] ++ List.replicate (zs l.length) 0 ++ lenb l.length) := by simp [padded]
  rw [this]
  exact runs_append _ _ _ _ (by omega)
theorem digit_calls (n : Int) (w : World) (h0 : 0 ≤ n) (h1 : n < 16) :
    Calls Tryz.prog 61 #[.int .u8 n] w fun e w' => e = .returned (.int .u8 (hexd n)) ∧ ∃ m, w' = w.drewN m := by
  have h : Rl.r02_digit.f n = some (hexd n) := by
    unfold Rl.r02_digit.f hexd
    by_cases h : n < 10
    · rw [if_pos h, if_pos h]; congr 1; omega
    · rw [if_neg h, if_neg h]; congr 1; omega
  exact (Rl.r02_digit.calls n _ w h).mono fun _ _ ⟨h, n, hn⟩ => ⟨h, n, hn⟩
set_option maxHeartbeats 4000000 in
set_option maxRecDepth 100000 in
theorem rname_calls (A : Option Addr) (c : Nat) (l : List Int) (w : World) (hC : (Kd.int .u8).C w A l.length l) (hc : l.length ≤ c) (hl : l.length ≤ 1099511627776) (h8 : ∀ x ∈ l, 0 ≤ x ∧ x < 256) :
    Calls Tryz.prog 41 #[.slice A l.length c] w fun e w' => e = .returned (.string (strOfNums (nameL (shaL l)))) ∧ Below w.heap.size w w' := by
  have hz := zero_32
  go_enter Tryz.func41, Tryz.ntmps41
  go_wp2_with (fail)
  refine (rsum_calls A c l _ hC hc hl h8).mono ?_
  rintro e w1 ⟨rfl, hb⟩
  rw [shaR_eq]
  have hlen := shaL_len l
  have h8s := shaL_8 l
  obtain ⟨r, hS⟩ : ∃ r, shaL l = r := ⟨_, rfl⟩
  rw [hS] at hlen h8s ⊢
  have HL := As.mk hlen
  have H8 := As.mk h8s
  have HSS := As.mk hS
  have hnew : As ((w1.alloc (.cells Z32 101)).heap[w1.heap.size]? = some (.cells Z32 101 (0, 0))) := ⟨Row.new w1 (List.replicate 32 (.int .u8 0)) 101⟩
  have HZ : As ((r.map (Value.int .u8)).toArray.size = 32) := ⟨by simp [hlen]⟩
  clear hlen h8s hS
  go_wp2_with (first
    | (refine wpList_store_row rfl 101 (.tmp 3) (.tmp 7) rfl w1.heap.size (r.map (Value.int .u8)).toArray rfl rfl 101 _ hnew.out (by rw [info_32, HZ.out]) (by rw [HZ.out]; rfl) (all_u8 _) ?_)
    | fail)
  have hR0 : As (Row ((w1.alloc (.cells Z32 101)).setRow w1.heap.size (r.map (Value.int .u8)).toArray) w1.heap.size 101 (r.map (Value.int .u8))) := ⟨setRow_heap _ _ _ _ _ _ hnew.out⟩
  have hB0 : As (Below (w1.heap.size + 1) ((w1.alloc (.cells Z32 101)).setRow w1.heap.size (r.map (Value.int .u8)).toArray) ((w1.alloc (.cells Z32 101)).setRow w1.heap.size (r.map (Value.int .u8)).toArray)) := ⟨Below.refl _ _⟩
  have hW0 : As (Below w.heap.size w ((w1.alloc (.cells Z32 101)).setRow w1.heap.size (r.map (Value.int .u8)).toArray)) := ⟨below_setRow (hb.alloc hb.size _) hb.size _⟩
  have hsz : ((w1.alloc (.cells Z32 101)).setRow w1.heap.size (r.map (Value.int .u8)).toArray).heap.size = w1.heap.size + 1 := by simp
  have HSZ := As.mk hsz
  clear hb hnew hsz
  obtain ⟨g, hg⟩ : ∃ g, w1.heap.size = g := ⟨_, rfl⟩
  rw [hg] at hR0 hB0 hW0 HSZ ⊢
  obtain ⟨w2, hw2⟩ : ∃ x, ((w1.alloc (.cells Z32 101)).setRow g (r.map (Value.int .u8)).toArray) = x := ⟨_, rfl⟩
  rw [hw2] at hR0 hB0 hW0 HSZ ⊢
  clear hw2 hg w1
  go_loopw [4, 5] (fun v4 v5 wr => ∃ i : Nat, i ≤ 32 ∧ v5 = .int .i64 i ∧ As ((Kd.int .u8).R 5 wr (g + 1) (fun _ => True) v4 (nameL (r.take i))) ∧ As (Below (g + 1) w2 wr)) (fun _ v5 _ => 32 - (intOf v5).toNat)
  case atStart => exact ⟨0, by omega, rfl, ⟨Kd.R_nil _ _ _ _ _⟩, hB0⟩
  case round =>
    clear hB0
    obtain ⟨i, hi, rfl, HO, HB⟩ := hrel
    have hsg : g + 1 ≤ wr.heap.size := by have := HB.out.size; rw [HSZ.out] at this; exact this
    by_cases hlt : i < 32
    · obtain ⟨x, hx⟩ : ∃ x, r.getD i 0 = x := ⟨_, rfl⟩
      have hcell : wr.cell? ⟨g, i, none⟩ = some (.int .u8 x) := by
        have := (hR0.out.below (B := g + 1) (by omega) HB.out).cell (i := i) (v := .int .u8 (r.getD i 0)) (by
          have : i < r.length := by rw [HL.out]; exact hlt
          simp [this])
        rw [hx] at this; exact this
      have hx8 : 0 ≤ x ∧ x < 256 := by
        rw [← hx]
        refine H8.out _ ?_
        have : i < r.length := by rw [HL.out]; exact hlt
        simp [this]
      have hx0 := hx8.1
      have hx1 := hx8.2
      have HX := As.mk hx
      clear hx hx8
      go_wp2
      refine QTail.wp_region_pre 1 11 (by kernel_rfl) (by kernel_rfl) (by intro _ _ d _ _ h; cases d <;> exact h) ?_
      simp only [List.take_succ_cons, List.take_zero, List.drop_succ_cons, List.drop_zero, QTail.pre]
      go_simp
      repeat (go_big_quiet_step (exact Calls.quiet_of (digit_calls _ _ (by omega) (by omega))))
      refine wpQuiet_nil ?_
      intro nq
      obtain ⟨y1, hy1⟩ : ∃ y, hexd (x / 16) = y := ⟨_, rfl⟩
      obtain ⟨y2, hy2⟩ : ∃ y, hexd (x % 16) = y := ⟨_, rfl⟩
      rw [hy1, hy2]
      have HY := As.mk (And.intro hy1 hy2)
      clear hy1 hy2
      have HO1 : As ((Kd.int .u8).R 5 ((wr.drewN nq).alloc (.cells #[.int .u8 y1, .int .u8 y2] 5)) (g + 1) (fun _ => True) u4 (nameL (r.take i))) := ⟨Kd.R_alloc (Kd.R_drewN HO.out nq) _⟩
      have HB1 : As (Below (g + 1) w2 ((wr.drewN nq).alloc (.cells #[.int .u8 y1, .int .u8 y2] 5))) := ⟨(Blk.pw_drewN HB.out nq).alloc hsg _⟩
      have HC := As.mk (C_new2 (wr.drewN nq) y1 y2)
      go_wp2_with (first
        | ((with_reducible refine gate_builtin (b := .append) (xs := #[.tmp 12, .tmp 23]) rfl ?_); at_builtin; refine Kd.R_append_rows (Kd.int .u8) (Rr := (Kd.int .u8).K ((wr.drewN nq).alloc (.cells #[.int .u8 y1, .int .u8 y2] 5))) (w0 := w2) (g + 1) rfl (.tmp 12) (.tmp 23) 80 5 (.int .u8 0) 1 rfl Tryz.underlying80 info_u8 rfl (by decide) (by omega) _ (nameL (r.take i)) [y1, y2] (some ⟨wr.heap.size, 0, none⟩) 2 2 (fun _ => True) (fun _ => False) rfl rfl HO1.out HC.out (fun _ _ h => h) (fun _ hk => hk.elim) (fun _ _ => trivial) HB1.out (by simp; omega) (by rw [nameL_len]; simp; omega) ?_; intro v1 w1 ho hb1 hg hat; have HO2 := As.mk ho; have HB2 := As.mk hb1; clear ho hb1 hat hg)
        | fail)
      refine ⟨⟨i + 1, by omega, by go_num, ⟨?_⟩, HB2⟩, by simp [intOf]; omega⟩
      rw [nameL_snoc r i (by rw [HL.out]; exact hlt), HX.out, HY.out.1, HY.out.2]
      exact HO2.out
    · have : i = 32 := by omega
      subst this
      obtain ⟨A1, c1, rfl, hc1, hC1⟩ := Kd.R_reads HO.out
      have hcv := Kd.C_string (P := Tryz.prog) (A := A1) (c := c1) Tryz.underlying80 Tryz.underlying5 Tryz.underlying9 hC1
      clear hC1
      go_wp2
      go_ret
      refine ⟨?_, hW0.out.trans (HB.out.mono (by have := hW0.out.size; have := HSZ.out; omega))⟩
      have ht : r.take 32 = r := List.take_of_length_le (by rw [HL.out]; exact Nat.le_refl _)
      rw [HSS.out, ht]
      rfl
end Go.Proofs.YtehmhfbfgniekaaGreatDoor.Dg
