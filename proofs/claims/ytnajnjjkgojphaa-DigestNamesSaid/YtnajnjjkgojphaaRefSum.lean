/- The contract of the reference's Sum. No condition. -/
import Derived.Test.YtnajnjjkgojphaaRefBlock
import Derived.Test.YtnajnjjkgojphaaQS
import Derived.Test.YtnajnjjkgojphaaDigName
import Derived.Outline
namespace Go.Proofs.Ytnajnjjkgojphaa.Dg
set_option linter.unusedVariables false
set_option linter.unusedSimpArgs false
open Go.RowKit Blk Go.Proofs.YtnajnjjkgojphaaW.PrintWords Go.Proofs.YtnajnjjkgojphaaW.PrintLast Go.Proofs.YtnajnjjkgojphaaW.PrintMore

/-- What the reference's Sum holds in memory: the result's box. -/
structure Sr (w wr : World) : Prop where
  box : Row wr w.heap.size 24 (List.replicate 32 (.int .u8 0))
  below : Below w.heap.size w wr
theorem Sr.alloc {w wr : World} (h : Sr w wr) (o : Obj) : Sr w (wr.alloc o) := ⟨h.box.alloc o, h.below.alloc (below_size h.below) o⟩
theorem Sr.grown {w wr w1 : World} {v : Value} (h : Sr w wr) (hg : wr.grownBy w1 v.ownBlock) (hv : ∀ k, v.ownBlock = some k → w.heap.size < k) (hb : Below w.heap.size w w1) : Sr w w1 :=
  ⟨h.box.grown hg (fun e => by have := hv _ e; omega), hb⟩
theorem Sr.size {w wr : World} (h : Sr w wr) : w.heap.size < wr.heap.size := h.box.lt
theorem Sr.then {w wr w1 : World} (h : Sr w wr) (hb : Below wr.heap.size wr w1) : Sr w w1 := ⟨h.box.below' hb, h.below.trans (hb.mono h.below.size)⟩

theorem But.setRow (B g : Nat) (w : World) (cs : Array Value) : But B g w (w.setRow g cs) :=
  ⟨rfl, rfl, rfl, by simp, fun k hk hn => setRow_other w g k cs hn⟩
/-- The bytes of the first i words, the first k ones of the next, then noughts. -/
def inn (H : List W) (i k : Nat) (x : W) : List Int := (H.take i).flatMap be ++ (be x).take k ++ List.replicate (32 - 4 * i - k) 0
theorem inn_0 (H : List W) (i : Nat) (x : W) : inn H i 0 x = outp H i := by simp [inn, outp]
theorem be_len (H : List W) (i : Nat) (h : i ≤ H.length) : ((H.take i).flatMap be).length = 4 * i := by
  have : ∀ L : List W, (L.flatMap be).length = 4 * L.length := by
    intro L
    induction L with
    | nil => rfl
    | cons a L ih => simp [be] at ih ⊢; omega
  rw [this, List.length_take]; omega
theorem pre_len (H : List W) (i k : Nat) (x : W) (h : i ≤ H.length) (hk : k ≤ 4) : ((H.take i).flatMap be ++ (be x).take k).length = 4 * i + k := by
  rw [List.length_append, be_len H i h, List.length_take]
  simp [be]; omega
theorem inn_at (H : List W) (i k : Nat) (x : W) (h : i ≤ H.length) (hi : i < 8) (hk : k < 4) : ((inn H i k x).map (Value.int .u8))[4 * i + k]? = some (.int .u8 0) := by
  rw [inn, List.getElem?_map, List.getElem?_append_right (by rw [pre_len H i k x h (by omega)]; omega), pre_len H i k x h (by omega)]
  simp [show 0 < 32 - 4 * i - k by omega]
theorem inn_set (H : List W) (i k : Nat) (x : W) (h : i ≤ H.length) (hi : i < 8) (hk : k < 4) (n : Int) (hn : n = (be x).getD k 0) :
    ((inn H i k x).map (Value.int .u8)).set (4 * i + k) (.int .u8 n) = (inn H i (k + 1) x).map (Value.int .u8) := by
  subst hn
  rw [← List.map_set]
  congr 1
  unfold inn
  rw [show 32 - 4 * i - k = (32 - 4 * i - (k + 1)) + 1 by omega, List.replicate_succ]
  rw [List.set_append_right _ _ (by rw [pre_len H i k x h (by omega)]; omega), pre_len H i k x h (by omega), Nat.sub_self, List.set_cons_zero]
  have hb : k < (be x).length := by simpa [be] using hk
  have hg : (be x).getD k 0 = (be x)[k] := by simp [hb]
  rw [hg, List.take_succ_eq_append_getElem hb]
  simp only [List.append_assoc, List.cons_append, List.nil_append]
theorem inn_4 (H : List W) (i : Nat) (x : W) (h : i < H.length) (hx : H.getD i 0 = x) : inn H i 4 x = outp H (i + 1) := by
  unfold inn outp
  rw [List.take_succ_eq_append_getElem h, List.flatMap_append]
  have : H[i] = x := by simpa [h] using hx
  rw [this]
  simp [be]
  rw [show 32 - 4 * i - 4 = 32 - 4 * (i + 1) by omega]
/-- The reference's sum. -/
def shaR (l : List Int) : List Int := outp (runs ((padded l l.length).length / 64) (padded l l.length) IV) 8
def IL : Array Value := #[.int .u32 1779033703, .int .u32 3144134277, .int .u32 1013904242, .int .u32 2773480762, .int .u32 1359893119, .int .u32 2600822924, .int .u32 528734635, .int .u32 1541459225]
theorem IL_eq : IL = (IV.map V).toArray := by rw [IV_eq]; rfl

set_option maxHeartbeats 8000000 in
set_option maxRecDepth 100000 in
theorem rsum_calls (A : Option Addr) (c : Nat) (l : List Int) (w : World) (hC : (Kd.int .u8).C w A l.length l) (hc : l.length ≤ c) (hl : l.length ≤ 1099511627776) (h8 : ∀ x ∈ l, 0 ≤ x ∧ x < 256) :
    Calls Try.prog 11 #[.slice A l.length c] w fun e w' => e = .returned (.agg ((shaR l).map (Value.int .u8)).toArray) ∧ Below w.heap.size w w' := by
  have HC := As.mk hC
  have H8 := As.mk h8
  have hz := zero_32
  have hz8 := zero_8
  clear hC h8
  have hS0 : Sr w (w.alloc (.cells Z32 24)) := ⟨Row.new w (List.replicate 32 (.int .u8 0)) 24, (Below.refl _ _).alloc (Nat.le_refl _) _⟩
  have hE0 := own_empty' (w.alloc (.cells Z32 24)) w.heap.size w.heap.size (by simp) hS0.size
  rw [show (w.alloc (.cells Z32 24)).heap.size = w.heap.size + 1 from by simp] at hE0
  have hE := As.mk hE0
  clear hE0
  have HS := As.mk (hS0.alloc (.cells #[] 5))
  have hCr := As.mk (Kd.C_below HC.out HS.out.below)
  clear hS0
  go_enter Try.func11, Try.ntmps11
  go_wp2_with (first
    | ((with_reducible refine gate_builtin (b := .append) (xs := #[.tmp 11, .tmp 12]) rfl ?_); at_builtin; refine Kd.R_append_rows (Kd.int .u8) (Rr := (Kd.int .u8).K ((w.alloc (.cells Z32 24)).alloc (.cells #[] 5))) (w0 := w) w.heap.size rfl (.tmp 11) (.tmp 12) 22 5 (.int .u8 0) 1 rfl Try.underlying22 info_u8 rfl (by decide) (by omega) _ [] l A l.length c (fun k => w.heap.size < k) (fun _ => False) rfl rfl hE.out hCr.out (fun _ _ h => h) (fun _ hk => hk.elim) (fun k hk => Nat.lt_of_lt_of_le HS.out.size hk) HS.out.below (below_size HS.out.below) (by simp; omega) ?_; intro v1 w1 ho hb1 hg hat; have HO := As.mk ho; have HS1 := As.mk (HS.out.grown hg hE.out.1 hb1); clear ho hb1 hat hg)
    | ((with_reducible refine gate_builtin (b := .append) (xs := #[.tmp 13, .tmp 14]) rfl ?_); at_builtin; refine Kd.R_append (Kd.int .u8) (w0 := w) w.heap.size rfl (.tmp 13) (.tmp 14) 22 5 (.int .u8 0) 1 rfl Try.underlying22 info_u8 rfl (by decide) (by omega) _ ([] ++ l) 128 [.int .u8 128] (fun k => w.heap.size < k) (fun _ => False) rfl rfl rfl (fun _ hk => hk.elim) (fun k hk => Nat.lt_of_lt_of_le HS1.out.size hk) HO.out HS1.out.below (below_size HS1.out.below) (by simp; omega) ?_; intro v2 w2 ho hb1 hg hat; have HO2 := As.mk ho; have HS2 := As.mk (HS1.out.grown hg HO.out.1 hb1); clear ho hb1 hat hg)
    | fail)
  clear HS HS1 HO hE hCr
  rw [List.nil_append] at HO2
  go_loopw [3] (fun v3 wr => ∃ z : Nat, z ≤ zs l.length ∧ As (Own wr w.heap.size w.heap.size v3 (l ++ [128] ++ List.replicate z 0)) ∧ As (Sr w wr)) (fun v3 _ => (120 - lenOf v3 % 64) % 64)
  case atStart => exact ⟨0, Nat.zero_le _, by simpa using HO2, HS2⟩
  case round =>
    clear HO2 HS2
    obtain ⟨z, hz', HO, HS⟩ := hrel
    obtain ⟨A5, c5, rfl, hc5, hC5⟩ := Kd.R_reads HO.out
    have hn : (l ++ [128] ++ List.replicate z 0).length = l.length + 1 + z := by simp; omega
    have HC5 := As.mk hC5
    clear hC5
    obtain ⟨xs, hxs⟩ : ∃ xs, l ++ [128] ++ List.replicate z 0 = xs := ⟨_, rfl⟩
    rw [hxs] at HO hc5 HC5 hn ⊢
    obtain ⟨n, hnn⟩ : ∃ n, xs.length = n := ⟨_, rfl⟩
    rw [hnn] at HO hc5 HC5 hn ⊢
    have hzs : zs l.length = (119 - l.length % 64) % 64 := rfl
    have hz64 : z < 64 := by omega
    by_cases hlt : z < zs l.length
    · have ht : ((n : Int) % 64 != 56) = true := by rw [bne_iff_ne]; omega
      have Hxs := As.mk hxs
      have Hn := As.mk hnn
      clear hxs hnn hzs
      go_wp2_with (first
        | ((with_reducible refine gate_builtin (b := .append) (xs := #[.tmp 20, .tmp 21]) rfl ?_); at_builtin; refine Kd.R_append (Kd.int .u8) (w0 := w) w.heap.size rfl (.tmp 20) (.tmp 21) 22 5 (.int .u8 0) 1 rfl Try.underlying22 info_u8 rfl (by decide) (by omega) _ xs 0 [.int .u8 0] (fun k => w.heap.size < k) (fun _ => False) rfl rfl rfl (fun _ hk => hk.elim) (fun k hk => Nat.lt_of_lt_of_le HS.out.size hk) HO.out HS.out.below (below_size HS.out.below) (by rw [Hn.out]; omega) ?_; intro v2 w2 ho hb1 hg hat; have HO2 := As.mk ho; have HS2 := As.mk (HS.out.grown hg HO.out.1 hb1); clear ho hb1 hat hg)
        | fail)
      obtain ⟨A6, c6, rfl, hc6, hC6⟩ := Kd.R_reads HO2.out
      have hl6 : (xs ++ [0]).length = n + 1 := by simp [Hn.out]
      refine ⟨⟨z + 1, by omega, ?_, HS2⟩, ?_⟩
      · rw [List.replicate_succ', ← List.append_assoc, Hxs.out]; exact HO2
      · simp only [lenOf, hl6]; have : zs l.length = (119 - l.length % 64) % 64 := rfl
        omega
    · have ht : ((n : Int) % 64 != 56) = false := by rw [bne_eq_false_iff_eq]; omega
      have hzz : z = zs l.length := by omega
      have Hxs := As.mk hxs
      have Hn := As.mk hnn
      have Hzz := As.mk hzz
      have Hn2 := As.mk hn
      have hnb : n ≤ 1099511628000 := by omega
      clear hxs hnn hzs hzz hn
      go_wp2
      clear ht
      go_loopw [3, 5] (fun v3 v5 wr => ∃ (k : Nat) (q : Int), (k, q) ∈ [(0, (7 : Int)), (1, 6), (2, 5), (3, 4), (4, 3), (5, 2), (6, 1), (7, 0), (8, -1)] ∧ v5 = .int .i64 q ∧ As (Own wr w.heap.size w.heap.size v3 (xs ++ (lenb l.length).take k)) ∧ As (Sr w wr)) (fun _ v5 _ => (intOf v5 + 1).toNat)
      case atStart => exact ⟨0, 7, by decide, rfl, by simpa using HO, HS⟩
      case round =>
        clear HO HS HC5
        obtain ⟨k, q, hk, rfl, HO, HS⟩ := hrel
        simp only [List.mem_cons, Prod.mk.injEq, List.not_mem_nil, or_false] at hk
        rcases hk with ⟨rfl, rfl⟩ | ⟨rfl, rfl⟩ | ⟨rfl, rfl⟩ | ⟨rfl, rfl⟩ | ⟨rfl, rfl⟩ | ⟨rfl, rfl⟩ | ⟨rfl, rfl⟩ | ⟨rfl, rfl⟩ | ⟨rfl, rfl⟩
        · go_wp2_with (first
            | ((with_reducible refine gate_builtin (b := .append) (xs := #[.tmp 31, .tmp 37]) rfl ?_); at_builtin; refine Kd.R_append (Kd.int .u8) (w0 := w) w.heap.size rfl (.tmp 31) (.tmp 37) 22 5 (.int .u8 0) 1 rfl Try.underlying22 info_u8 rfl (by decide) (by omega) _ (xs ++ (lenb l.length).take 0) _ [.int .u8 _] (fun k => w.heap.size < k) (fun _ => False) rfl rfl rfl (fun _ hk => hk.elim) (fun k hk => Nat.lt_of_lt_of_le HS.out.size hk) HO.out HS.out.below (below_size HS.out.below) (by simp [Hn.out, lenb]; omega) ?_; intro v2 w2 ho hb1 hg hat; have HO2 := As.mk ho; have HS2 := As.mk (HS.out.grown hg HO.out.1 hb1); clear ho hb1 hat hg)
            | fail)
          go_roundw
          case measure => simp [intOf]
          case rel =>
            refine ⟨1, 6, by decide, rfl, ⟨cast (congrArg (Own _ _ _ _) ?_) HO2.out⟩, HS2⟩
            rw [List.append_assoc]
            congr 1
            simp only [lenb, List.map_cons, List.map_nil, List.take_succ_cons, List.take_zero, List.nil_append, List.cons_append, List.cons.injEq, true_and, and_true, Nat.reducePow]
            omega
        · go_wp2_with (first
            | ((with_reducible refine gate_builtin (b := .append) (xs := #[.tmp 31, .tmp 37]) rfl ?_); at_builtin; refine Kd.R_append (Kd.int .u8) (w0 := w) w.heap.size rfl (.tmp 31) (.tmp 37) 22 5 (.int .u8 0) 1 rfl Try.underlying22 info_u8 rfl (by decide) (by omega) _ (xs ++ (lenb l.length).take 1) _ [.int .u8 _] (fun k => w.heap.size < k) (fun _ => False) rfl rfl rfl (fun _ hk => hk.elim) (fun k hk => Nat.lt_of_lt_of_le HS.out.size hk) HO.out HS.out.below (below_size HS.out.below) (by simp [Hn.out, lenb]; omega) ?_; intro v2 w2 ho hb1 hg hat; have HO2 := As.mk ho; have HS2 := As.mk (HS.out.grown hg HO.out.1 hb1); clear ho hb1 hat hg)
            | fail)
          go_roundw
          case measure => simp [intOf]
          case rel =>
            refine ⟨2, 5, by decide, rfl, ⟨cast (congrArg (Own _ _ _ _) ?_) HO2.out⟩, HS2⟩
            rw [List.append_assoc]
            congr 1
            simp only [lenb, List.map_cons, List.map_nil, List.take_succ_cons, List.take_zero, List.nil_append, List.cons_append, List.cons.injEq, true_and, and_true, Nat.reducePow]
            omega
        · go_wp2_with (first
            | ((with_reducible refine gate_builtin (b := .append) (xs := #[.tmp 31, .tmp 37]) rfl ?_); at_builtin; refine Kd.R_append (Kd.int .u8) (w0 := w) w.heap.size rfl (.tmp 31) (.tmp 37) 22 5 (.int .u8 0) 1 rfl Try.underlying22 info_u8 rfl (by decide) (by omega) _ (xs ++ (lenb l.length).take 2) _ [.int .u8 _] (fun k => w.heap.size < k) (fun _ => False) rfl rfl rfl (fun _ hk => hk.elim) (fun k hk => Nat.lt_of_lt_of_le HS.out.size hk) HO.out HS.out.below (below_size HS.out.below) (by simp [Hn.out, lenb]; omega) ?_; intro v2 w2 ho hb1 hg hat; have HO2 := As.mk ho; have HS2 := As.mk (HS.out.grown hg HO.out.1 hb1); clear ho hb1 hat hg)
            | fail)
          go_roundw
          case measure => simp [intOf]
          case rel =>
            refine ⟨3, 4, by decide, rfl, ⟨cast (congrArg (Own _ _ _ _) ?_) HO2.out⟩, HS2⟩
            rw [List.append_assoc]
            congr 1
            simp only [lenb, List.map_cons, List.map_nil, List.take_succ_cons, List.take_zero, List.nil_append, List.cons_append, List.cons.injEq, true_and, and_true, Nat.reducePow]
            omega
        · go_wp2_with (first
            | ((with_reducible refine gate_builtin (b := .append) (xs := #[.tmp 31, .tmp 37]) rfl ?_); at_builtin; refine Kd.R_append (Kd.int .u8) (w0 := w) w.heap.size rfl (.tmp 31) (.tmp 37) 22 5 (.int .u8 0) 1 rfl Try.underlying22 info_u8 rfl (by decide) (by omega) _ (xs ++ (lenb l.length).take 3) _ [.int .u8 _] (fun k => w.heap.size < k) (fun _ => False) rfl rfl rfl (fun _ hk => hk.elim) (fun k hk => Nat.lt_of_lt_of_le HS.out.size hk) HO.out HS.out.below (below_size HS.out.below) (by simp [Hn.out, lenb]; omega) ?_; intro v2 w2 ho hb1 hg hat; have HO2 := As.mk ho; have HS2 := As.mk (HS.out.grown hg HO.out.1 hb1); clear ho hb1 hat hg)
            | fail)
          go_roundw
          case measure => simp [intOf]
          case rel =>
            refine ⟨4, 3, by decide, rfl, ⟨cast (congrArg (Own _ _ _ _) ?_) HO2.out⟩, HS2⟩
            rw [List.append_assoc]
            congr 1
            simp only [lenb, List.map_cons, List.map_nil, List.take_succ_cons, List.take_zero, List.nil_append, List.cons_append, List.cons.injEq, true_and, and_true, Nat.reducePow]
            omega
        · go_wp2_with (first
            | ((with_reducible refine gate_builtin (b := .append) (xs := #[.tmp 31, .tmp 37]) rfl ?_); at_builtin; refine Kd.R_append (Kd.int .u8) (w0 := w) w.heap.size rfl (.tmp 31) (.tmp 37) 22 5 (.int .u8 0) 1 rfl Try.underlying22 info_u8 rfl (by decide) (by omega) _ (xs ++ (lenb l.length).take 4) _ [.int .u8 _] (fun k => w.heap.size < k) (fun _ => False) rfl rfl rfl (fun _ hk => hk.elim) (fun k hk => Nat.lt_of_lt_of_le HS.out.size hk) HO.out HS.out.below (below_size HS.out.below) (by simp [Hn.out, lenb]; omega) ?_; intro v2 w2 ho hb1 hg hat; have HO2 := As.mk ho; have HS2 := As.mk (HS.out.grown hg HO.out.1 hb1); clear ho hb1 hat hg)
            | fail)
          go_roundw
          case measure => simp [intOf]
          case rel =>
            refine ⟨5, 2, by decide, rfl, ⟨cast (congrArg (Own _ _ _ _) ?_) HO2.out⟩, HS2⟩
            rw [List.append_assoc]
            congr 1
            simp only [lenb, List.map_cons, List.map_nil, List.take_succ_cons, List.take_zero, List.nil_append, List.cons_append, List.cons.injEq, true_and, and_true, Nat.reducePow]
            omega
        · go_wp2_with (first
            | ((with_reducible refine gate_builtin (b := .append) (xs := #[.tmp 31, .tmp 37]) rfl ?_); at_builtin; refine Kd.R_append (Kd.int .u8) (w0 := w) w.heap.size rfl (.tmp 31) (.tmp 37) 22 5 (.int .u8 0) 1 rfl Try.underlying22 info_u8 rfl (by decide) (by omega) _ (xs ++ (lenb l.length).take 5) _ [.int .u8 _] (fun k => w.heap.size < k) (fun _ => False) rfl rfl rfl (fun _ hk => hk.elim) (fun k hk => Nat.lt_of_lt_of_le HS.out.size hk) HO.out HS.out.below (below_size HS.out.below) (by simp [Hn.out, lenb]; omega) ?_; intro v2 w2 ho hb1 hg hat; have HO2 := As.mk ho; have HS2 := As.mk (HS.out.grown hg HO.out.1 hb1); clear ho hb1 hat hg)
            | fail)
          go_roundw
          case measure => simp [intOf]
          case rel =>
            refine ⟨6, 1, by decide, rfl, ⟨cast (congrArg (Own _ _ _ _) ?_) HO2.out⟩, HS2⟩
            rw [List.append_assoc]
            congr 1
            simp only [lenb, List.map_cons, List.map_nil, List.take_succ_cons, List.take_zero, List.nil_append, List.cons_append, List.cons.injEq, true_and, and_true, Nat.reducePow]
            omega
        · go_wp2_with (first
            | ((with_reducible refine gate_builtin (b := .append) (xs := #[.tmp 31, .tmp 37]) rfl ?_); at_builtin; refine Kd.R_append (Kd.int .u8) (w0 := w) w.heap.size rfl (.tmp 31) (.tmp 37) 22 5 (.int .u8 0) 1 rfl Try.underlying22 info_u8 rfl (by decide) (by omega) _ (xs ++ (lenb l.length).take 6) _ [.int .u8 _] (fun k => w.heap.size < k) (fun _ => False) rfl rfl rfl (fun _ hk => hk.elim) (fun k hk => Nat.lt_of_lt_of_le HS.out.size hk) HO.out HS.out.below (below_size HS.out.below) (by simp [Hn.out, lenb]; omega) ?_; intro v2 w2 ho hb1 hg hat; have HO2 := As.mk ho; have HS2 := As.mk (HS.out.grown hg HO.out.1 hb1); clear ho hb1 hat hg)
            | fail)
          go_roundw
          case measure => simp [intOf]
          case rel =>
            refine ⟨7, 0, by decide, rfl, ⟨cast (congrArg (Own _ _ _ _) ?_) HO2.out⟩, HS2⟩
            rw [List.append_assoc]
            congr 1
            simp only [lenb, List.map_cons, List.map_nil, List.take_succ_cons, List.take_zero, List.nil_append, List.cons_append, List.cons.injEq, true_and, and_true, Nat.reducePow]
            omega
        · go_wp2_with (first
            | ((with_reducible refine gate_builtin (b := .append) (xs := #[.tmp 31, .tmp 37]) rfl ?_); at_builtin; refine Kd.R_append (Kd.int .u8) (w0 := w) w.heap.size rfl (.tmp 31) (.tmp 37) 22 5 (.int .u8 0) 1 rfl Try.underlying22 info_u8 rfl (by decide) (by omega) _ (xs ++ (lenb l.length).take 7) _ [.int .u8 _] (fun k => w.heap.size < k) (fun _ => False) rfl rfl rfl (fun _ hk => hk.elim) (fun k hk => Nat.lt_of_lt_of_le HS.out.size hk) HO.out HS.out.below (below_size HS.out.below) (by simp [Hn.out, lenb]; omega) ?_; intro v2 w2 ho hb1 hg hat; have HO2 := As.mk ho; have HS2 := As.mk (HS.out.grown hg HO.out.1 hb1); clear ho hb1 hat hg)
            | fail)
          go_roundw
          case measure => simp [intOf]
          case rel =>
            refine ⟨8, -1, by decide, rfl, ⟨cast (congrArg (Own _ _ _ _) ?_) HO2.out⟩, HS2⟩
            rw [List.append_assoc]
            congr 1
            simp only [lenb, List.map_cons, List.map_nil, List.take_succ_cons, List.take_zero, List.nil_append, List.cons_append, List.cons.injEq, true_and, and_true, Nat.reducePow]
            omega
        · have h8 : (lenb l.length).take 8 = lenb l.length := rfl
          rw [h8] at HO
          have hbo := Kd.R_bound HO.out
          obtain ⟨A6, c6, rfl, hc6, hC6⟩ := Kd.R_reads HO.out
          have hne6 : ∀ ad, A6 = some ad → w.heap.size < ad.block ∧ ad.block < wr.heap.size := by
            rintro ad rfl
            have := hbo.1 ad.block (by simp [Value.ownBlock])
            exact ⟨this.1, this.2.2.1⟩
          have hpd : xs ++ lenb l.length = padded l l.length := by rw [← Hxs.out, Hzz.out]; rfl
          rw [hpd] at hC6 hc6 HO
          rw [hpd]
          have hpl : (padded l l.length).length = n + 8 := by rw [← hpd]; simp [Hn.out, lenb]
          have hp64 : (padded l l.length).length % 64 = 0 := by
            have h1 := Hn2.out
            have h2 := Hzz.out
            have h3 : zs l.length = (119 - l.length % 64) % 64 := rfl
            omega
          have hp8 : ∀ x ∈ padded l l.length, 0 ≤ x ∧ x < 256 := by
            intro x hx
            simp only [padded, lenb, List.mem_append, List.mem_cons, List.not_mem_nil, or_false, List.mem_replicate, List.map_cons, List.map_nil] at hx
            rcases hx with ((hx | hx) | hx) | hx
            · exact H8.out x hx
            · omega
            · omega
            · omega
          obtain ⟨p, hpp⟩ : ∃ p, padded l l.length = p := ⟨_, rfl⟩
          rw [hpp] at hC6 hc6 hpl hp64 hp8 ⊢
          have HP := As.mk hpp
          have HPL := As.mk hpl
          have HP64 := As.mk hp64
          have HP8 := As.mk hp8
          have HC6 := As.mk hC6
          have HE6 := As.mk hne6
          have hpb : p.length ≤ 1099511628100 := by omega
          clear hpp hpl hp64 hp8 hC6 hne6 hbo HO h8 hpd
          have hk8 : As ((wr.alloc (.cells Z8 38)).heap[wr.heap.size]? = some (.cells Z8 38 (0, 0))) := ⟨Row.new wr (List.replicate 8 (V 0)) 38⟩
          go_wp2_with (first
            | (refine wpList_store_row rfl 38 (.tmp 6) (.tmp 39) rfl wr.heap.size IL rfl (by kernel_rfl) 38 _ hk8.out (by kernel_rfl) (by kernel_rfl) (by kernel_rfl) ?_)
            | fail)
          have hH : As (Row ((wr.alloc (.cells Z8 38)).setRow wr.heap.size IL) wr.heap.size 38 ((runs 0 p IV).map V)) := ⟨by
            have := setRow_heap (wr.alloc (.cells Z8 38)) wr.heap.size _ IL _ _ hk8.out
            unfold Row runs
            rw [this, IL_eq]⟩
          have hX : Below wr.heap.size wr ((wr.alloc (.cells Z8 38)).setRow wr.heap.size IL) := below_setRow ((Below.refl _ _).alloc (Nat.le_refl _) _) (Nat.le_refl _) _
          have hgh := HS.out.size
          have hS4 := As.mk (HS.out.then hX)
          have hC4 := As.mk (Kd.C_below HC6.out hX)
          clear hX hk8 HS HC6
          obtain ⟨gh, hgg⟩ : ∃ b, wr.heap.size = b := ⟨_, rfl⟩
          rw [hgg] at hH hS4 hC4 HE6 hgh ⊢
          obtain ⟨w4, hw4⟩ : ∃ x, ((wr.alloc (.cells Z8 38)).setRow gh IL) = x := ⟨_, rfl⟩
          rw [hw4] at hH hS4 hC4 ⊢
          clear hw4 hgg wr
          go_loopw [7] (fun v7 wr => ∃ k : Nat, 64 * k ≤ p.length ∧ v7 = .int .i64 (64 * k : Nat) ∧ As (Row wr gh 38 ((runs k p IV).map V)) ∧ As (Sr w wr) ∧ As ((Kd.int .u8).C wr A6 p.length p)) (fun v7 _ => p.length - (intOf v7).toNat)
          case atStart => exact ⟨0, by omega, rfl, hH, hS4, hC4⟩
          case round =>
            clear hH hS4 hC4 w4
            obtain ⟨k, hk, rfl, hH, hS, hC⟩ := hrel
            by_cases hlt : 64 * k < p.length
            · have h64 : 64 * k + 64 ≤ p.length := by have := HP64.out; omega
              obtain ⟨ad, rfl, _⟩ := Kd.at_int hC.out (0 : Int) (by omega) (by omega)
              have hmid := Kd.C_mid (lo := 64 * k) (hi := 64 * k + 64) hC.out (by omega) h64 hc6
              rw [if_neg (by omega)] at hmid
              have hml : ((p.take (64 * k + 64)).drop (64 * k)).length = 64 := by simp; omega
              rw [hml] at hmid
              have hme : (p.take (64 * k + 64)).drop (64 * k) = (p.drop (64 * k)).take 64 := by rw [List.drop_take]; congr 1; omega
              rw [hme] at hmid hml
              have HM := As.mk hmid
              have HML := As.mk hml
              clear hmid hml hme
              obtain ⟨q, hq⟩ : ∃ q : Nat, 64 * k = q := ⟨_, rfl⟩
              rw [hq] at hk hlt h64 HM HML ⊢
              have Hq := As.mk hq
              clear hq
              replace HM : As ((Kd.int .u8).C wr (some (ad.add q)) 64 ((p.drop q).take 64)) := ⟨by
                have h1 := HM.out
                have e : q * (Kd.int .u8).sz = q := Nat.mul_one q
                rw [Option.map_some, e] at h1
                exact h1⟩
              have h8m : ∀ x ∈ (p.drop q).take 64, 0 ≤ x ∧ x < 256 := fun x hx => HP8.out x (List.mem_of_mem_drop (List.mem_of_mem_take hx))
              have HM8 := As.mk h8m
              have hrl := runs_len k p IV IV_len
              have HRL := As.mk hrl
              have HRS : As (((runs k p IV).map V).toArray.size = 8) := ⟨by simp [hrl]⟩
              clear h8m hrl
              go_wp2
              refine QS.region_tail 7 (by kernel_rfl) (by kernel_rfl) ?_
              simp only [List.take_succ_cons, List.take_zero, List.drop_succ_cons, List.drop_zero]
              repeat (first
                | (go_big_quiet_step ((go_at_call 19; exact QS.quiet (block_calls _ _ _ _ _ HRL.out HML.out HM8.out (Kd.C_below HM.out (QS.S.below _))))))
                | (go_big_quiet_want; refine QS.quiet_run _ (fun x => QS.run_load_row 38 (.tmp 6) rfl gh rfl 38 ((runs k p IV).map V).toArray (0, 0) _ (hH.out.below' x.2) Try.underlying38 rfl (by rw [info_8, HRS.out])) ?_; go_simp; go_big_quiet_on))
              refine wpQuiet_nil ?_
              rintro _ ⟨x, rfl⟩
              have hbl := blk_len ((p.drop q).take 64) (runs k p IV) HRL.out
              have HBS : As (((blk KK ((p.drop q).take 64) (runs k p IV)).map V).toArray.size = 8) := ⟨by simp [hbl]⟩
              have hHx := As.mk (hH.out.below' x.below)
              have hSx := As.mk (hS.out.then x.below)
              have hCx := As.mk (Kd.C_below hC.out x.below)
              clear hbl
              go_wp2_with (first
                | (refine wpList_store_row rfl 38 (.tmp 6) (.tmp 52) rfl gh ((blk KK ((p.drop q).take 64) (runs k p IV)).map V).toArray rfl rfl 38 _ hHx.out (by rw [info_8, HBS.out]) (by rw [HBS.out]; exact HRS.out) (all_V _) ?_)
                | fail)
              refine ⟨⟨k + 1, by have := Hq.out; omega, by have := Hq.out; rw [show (64 * (k + 1) : Nat) = q + 64 by omega]; rfl, ⟨?_⟩, ⟨⟨hSx.out.box.setRow_ne (by omega) _, below_setRow hSx.out.below (by omega) _⟩⟩, ⟨C_but hCx.out (But.setRow x.val.heap.size gh x.val _) (fun ad' h => ⟨by have := (HE6.out ad' h).2; omega, by have h1 := (HE6.out ad' h).2; have h2 := hHx.out.lt; omega⟩)⟩⟩, by simp [intOf]; omega⟩
              have := setRow_heap x.val gh _ ((blk KK ((p.drop q).take 64) (runs k p IV)).map V).toArray _ _ hHx.out
              rw [runs_snoc, Hq.out]
              exact this
            · have hkk : k = p.length / 64 := by have := HP64.out; omega
              subst hkk
              obtain ⟨H, hHH⟩ : ∃ H, runs (p.length / 64) p IV = H := ⟨_, rfl⟩
              have hHl := runs_len (p.length / 64) p IV IV_len
              rw [hHH] at hH hHl
              have HHH := As.mk hHH
              have HHL := As.mk hHl
              clear hHH hHl
              go_wp2
              obtain ⟨wo, hwo⟩ : ∃ wo : World, wo = wr := ⟨_, rfl⟩
              subst hwo
              have hG : As (Row (wo.alloc (.cells Z32 24)) wo.heap.size 24 ((outp H 0).map (Value.int .u8))) := ⟨Row.new wo (List.replicate 32 (.int .u8 0)) 24⟩
              have hHa : As (Row (wo.alloc (.cells Z32 24)) gh 38 (H.map V)) := ⟨hH.out.alloc _⟩
              have hSa : As (Sr w (wo.alloc (.cells Z32 24))) := ⟨hS.out.alloc _⟩
              have hgo : gh < wo.heap.size ∧ w.heap.size < gh := ⟨hH.out.lt, hgh⟩
              clear hH hS hC
              go_loopw [9] (fun v9 wr => ∃ i : Nat, i ≤ 8 ∧ v9 = .int .i64 i ∧ As (Row wr wo.heap.size 24 ((outp H i).map (Value.int .u8))) ∧ As (Row wr gh 38 (H.map V)) ∧ As (Sr w wr)) (fun v9 _ => 8 - (intOf v9).toNat)
              case atStart => exact ⟨0, by omega, rfl, hG, hHa, hSa⟩
              case round =>
                clear hG hHa hSa
                obtain ⟨i, hi, rfl, hG, hHa, hSa⟩ := hrel
                by_cases hi8 : i < 8
                · have hcell := hHa.out.cell (i := i) (v := V (H.getD i 0)) (by
                    have : i < H.length := by rw [HHL.out]; exact hi8
                    simp [this])
                  obtain ⟨x, hx⟩ : ∃ x, H.getD i 0 = x := ⟨_, rfl⟩
                  rw [hx] at hcell
                  have HX := As.mk hx
                  have HCL := As.mk hcell
                  clear hx hcell
                  go_wp2
                  go_loopw [10] (fun v10 wr => ∃ k : Nat, k ≤ 4 ∧ v10 = .int .i64 k ∧ As (Row wr wo.heap.size 24 ((inn H i k x).map (Value.int .u8))) ∧ As (Row wr gh 38 (H.map V)) ∧ As (Sr w wr)) (fun v10 _ => 4 - (intOf v10).toNat)
                  case atStart => exact ⟨0, by omega, rfl, ⟨by rw [inn_0]; exact hG.out⟩, hHa, hSa⟩
                  case round =>
                    clear hG hHa hSa HCL
                    obtain ⟨k, hk, rfl, hG, hHa, hSa⟩ := hrel
                    have hcell := hHa.out.cell (i := i) (v := V x) (by
                      rw [← HX.out]
                      have : i < H.length := by rw [HHL.out]; exact hi8
                      simp [this])
                    unfold V at hcell
                    rcases (show k = 0 ∨ k = 1 ∨ k = 2 ∨ k = 3 ∨ k = 4 by omega) with rfl | rfl | rfl | rfl | rfl
                    · have hk0 := hG.out.cell (i := 4 * i) (v := .int .u8 0) (inn_at H i 0 x (by rw [HHL.out]; omega) hi8 (by decide))
                      have hkf := hG.out.free (4 * i) none
                      go_wp2
                      refine ⟨⟨1, by omega, rfl, ⟨?_⟩, ⟨hHa.out.set_ne (by simp; omega) _⟩, ⟨⟨hSa.out.box.set_ne (by simp; omega) _, hSa.out.below.setCell (by simp; omega) _⟩⟩⟩, by simp [intOf]⟩
                      rw [← inn_set H i 0 x (by rw [HHL.out]; omega) hi8 (by decide) _ rfl]
                      exact hG.out.set (4 * i) _
                    · have hk0 := hG.out.cell (i := 4 * i + 1) (v := .int .u8 0) (inn_at H i 1 x (by rw [HHL.out]; omega) hi8 (by decide))
                      have hkf := hG.out.free (4 * i + 1) none
                      go_wp2
                      refine ⟨⟨2, by omega, rfl, ⟨?_⟩, ⟨hHa.out.set_ne (by simp; omega) _⟩, ⟨⟨hSa.out.box.set_ne (by simp; omega) _, hSa.out.below.setCell (by simp; omega) _⟩⟩⟩, by simp [intOf]⟩
                      rw [← inn_set H i 1 x (by rw [HHL.out]; omega) hi8 (by decide) _ rfl]
                      exact hG.out.set (4 * i + 1) _
                    · have hk0 := hG.out.cell (i := 4 * i + 2) (v := .int .u8 0) (inn_at H i 2 x (by rw [HHL.out]; omega) hi8 (by decide))
                      have hkf := hG.out.free (4 * i + 2) none
                      go_wp2
                      refine ⟨⟨3, by omega, rfl, ⟨?_⟩, ⟨hHa.out.set_ne (by simp; omega) _⟩, ⟨⟨hSa.out.box.set_ne (by simp; omega) _, hSa.out.below.setCell (by simp; omega) _⟩⟩⟩, by simp [intOf]⟩
                      rw [← inn_set H i 2 x (by rw [HHL.out]; omega) hi8 (by decide) _ rfl]
                      exact hG.out.set (4 * i + 2) _
                    · have hk0 := hG.out.cell (i := 4 * i + 3) (v := .int .u8 0) (inn_at H i 3 x (by rw [HHL.out]; omega) hi8 (by decide))
                      have hkf := hG.out.free (4 * i + 3) none
                      go_wp2
                      refine ⟨⟨4, by omega, rfl, ⟨?_⟩, ⟨hHa.out.set_ne (by simp; omega) _⟩, ⟨⟨hSa.out.box.set_ne (by simp; omega) _, hSa.out.below.setCell (by simp; omega) _⟩⟩⟩, by simp [intOf]⟩
                      rw [← inn_set H i 3 x (by rw [HHL.out]; omega) hi8 (by decide) _ rfl]
                      exact hG.out.set (4 * i + 3) _
                    · go_wp2
                      refine ⟨⟨i + 1, by omega, by go_num, ⟨?_⟩, hHa, hSa⟩, by simp [intOf]; omega⟩
                      rw [← inn_4 H i x (by rw [HHL.out]; exact hi8) HX.out]
                      exact hG.out
                · have : i = 8 := by omega
                  subst this
                  have hol := outp_len8 H HHL.out
                  have HOS : As ((((outp H 8).map (Value.int .u8)).toArray).size = 32) := ⟨by simp [hol]⟩
                  go_wp2_with (first
                    | (refine wpList_load_row rfl 24 (.tmp 8) rfl wo.heap.size rfl 24 _ (0, 0) _ hG.out Try.underlying24 rfl (by rw [info_32, HOS.out]) ?_)
                    | (refine wpList_store_row rfl 24 (.tmp 2) (.tmp 74) rfl w.heap.size ((outp H 8).map (Value.int .u8)).toArray rfl rfl 24 _ hSa.out.box (by rw [info_32, HOS.out]) (by rw [HOS.out]; rfl) (all_u8 _) ?_)
                    | fail)
                  refine bodyPost_ret (v := .agg ((outp H 8).map (Value.int .u8)).toArray) (results_cell_row rfl _ _ w.heap.size 24 _ (0, 0) _ rfl (setRow_heap _ _ _ _ _ _ hSa.out.box) Try.underlying24 rfl (by rw [info_32, HOS.out])) rfl ⟨?_, below_setRow hSa.out.below (Nat.le_refl _) _⟩
                  rw [shaR, HP.out, HHH.out]
end Go.Proofs.Ytnajnjjkgojphaa.Dg
