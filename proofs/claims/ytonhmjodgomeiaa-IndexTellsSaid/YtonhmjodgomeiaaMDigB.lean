/- Joined texts: DigSum, DigName, DigNamed. No condition but what stands in each. -/
import Derived.Test.YtonhmjodgomeiaaMDigA
import Derived.Test.YtonhmjodgomeiaaDigTake1
import Derived.Outline
import Derived.BigRegion
import Derived.Test.YtonhmjodgomeiaaMBase
import Derived.Stop.BytesEq
/- The contract of digest.Sum. -/
namespace Go.Proofs.Ytonhmjodgomeiaa.Dg
set_option linter.unusedVariables false
set_option linter.unusedSimpArgs false
open Go.RowKit Blk Go.Proofs.YtonhmjodgomeiaaW.PrintWords Go.Proofs.YtonhmjodgomeiaaW.PrintLast Go.Proofs.YtonhmjodgomeiaaW.PrintMore

/-- n blocks taken in. -/
def runs : Nat → List Int → List W → List W
  | 0, _, H => H
  | n + 1, l, H => runs n (l.drop 64) (blk KK (l.take 64) H)
theorem runs_snoc (n : Nat) : ∀ (l : List Int) (H : List W), runs (n + 1) l H = blk KK ((l.drop (64 * n)).take 64) (runs n l H) := by
  induction n with
  | zero => intro l H; simp [runs]
  | succ n ih =>
    intro l H
    rw [runs, ih, List.drop_drop]
    rw [show 64 + 64 * n = 64 * (n + 1) by omega]
    rfl

theorem cell_of_C {w : World} {ad : Addr} {n : Nat} {l : List Int} (h : (Kd.int .u8).C w (some ad) n l) (i : Nat) (hi : i < n) : w.cell? (ad.add i) = some (.int .u8 (l.getD i 0)) := by
  obtain ⟨_, h1, h2⟩ := Kd.at_int h (i : Int) (by omega) (by omega)
  cases h1
  simpa [rd] using h2
theorem cell_lt {w : World} {a : Addr} {v : Value} (h : w.cell? a = some v) : a.block < w.heap.size := by
  unfold World.cell? at h
  rcases hb : w.heap[a.block]? with _ | o
  · simp [hb] at h
  · exact (Array.getElem?_eq_some_iff.1 hb).1
theorem cell_spot {w : World} {a : Addr} {v : Value} (h : w.cell? a = some v) : a.spot = none := by
  unfold World.cell? at h
  split at h
  · split at h
    · cases h
    · rename_i hs; simpa using hs
  · cases h

/-- take, of whatever slice that reads as 64 bytes. -/
theorem take_any (bs cap : Nat) (A : Option Addr) (H : List W) (m : List Int) (w : World) (hH : H.length = 8) (hm : m.length = 64) (hm8 : ∀ x ∈ m, 0 ≤ x ∧ x < 256)
    (hS : Row w bs 74 ((H ++ KK).map V)) (hC : (Kd.int .u8).C w A 64 m) :
    Calls Try.prog 44 #[.pointer (some ⟨bs, 0, none⟩), .slice A 64 cap] w fun e w' =>
      e = .returned (.tuple #[]) ∧ Row w' bs 74 ((blk KK m H ++ KK).map V) ∧ But w.heap.size bs w w' := by
  obtain ⟨ad, rfl, _⟩ := Kd.at_int hC (0 : Int) (by omega) (by omega)
  have h0 := cell_of_C hC 0 (by omega)
  obtain ⟨bb, off, sp⟩ := ad
  have hs : sp = none := by simpa [Addr.add] using cell_spot h0
  subst hs
  refine take_calls bs bb off cap H KK m w hH (by simp [KK, P64_len]) hm hS (fun i hi => ?_) hm8 ?_
  · have := cell_of_C hC i hi
    unfold Addr.add at this
    split at this
    · rename_i h; subst h; exact this
    · exact this
  · simpa [Addr.add] using cell_lt h0

theorem KK_len : KK.length = 64 := by simp [KK, P64_len]
theorem IV_len : IV.length = 8 := by simp [IV, P64_len]
theorem blk_len (m : List Int) (H : List W) (h : H.length = 8) : (blk KK m H).length = 8 := by simp [blk, St.list, h]
theorem runs_len (n : Nat) : ∀ (l : List Int) (H : List W), H.length = 8 → (runs n l H).length = 8 := by
  induction n with
  | zero => intro l H h; exact h
  | succ n ih => intro l H h; exact ih _ _ (blk_len _ _ h)

theorem own_empty (W : World) (base : Nat) (h : base ≤ W.heap.size) :
    (Kd.int .u8).R 5 (W.alloc (.cells #[] 5)) base (fun _ => True) (.slice (some ⟨W.heap.size, 0, none⟩) 0 0) [] := by
  refine ⟨fun _ _ => trivial, [], ?_, ?_⟩
  · have := World.ownsRow_lit (base := base) (e := 5) (size := 1) W #[] 0 h (by decide) (by simp)
    exact (by simpa using this : (W.alloc (.cells #[] 5)).ownsRow base 5 1 (.slice (some ⟨W.heap.size, 0, none⟩) 0 0) 0 [])
  · exact ⟨rfl, fun j p hj => by simp at hj⟩
theorem info_u8 : (Try.prog.info? 5).map (fun i => (i.zero, i.size, i.bytes)) = some (some (.int .u8 0), 1, 1) := by kernel_rfl
def Z32 : Array Value := (List.replicate 32 (.int .u8 0)).toArray
theorem zero_32 (w : World) : (zeroValue 45).run Try.prog w = .ok (.agg Z32) w := by kernel_rfl

/-- What Sum holds in memory: the sums, the result's box. -/
structure Sm (w : World) (bs : Nat) (H : List W) (wr : World) : Prop where
  sums : Row wr bs 74 ((H ++ KK).map V)
  box : Row wr w.heap.size 45 (List.replicate 32 (.int .u8 0))
  below : Below w.heap.size w wr
  lt : w.heap.size < bs
theorem Sm.alloc {w wr : World} {bs : Nat} {H : List W} (h : Sm w bs H wr) (o : Obj) : Sm w bs H (wr.alloc o) :=
  ⟨h.sums.alloc o, h.box.alloc o, h.below.alloc (below_size h.below) o, h.lt⟩
theorem Sm.grown {w wr w1 : World} {bs : Nat} {H : List W} {v : Value} (h : Sm w bs H wr) (hg : wr.grownBy w1 v.ownBlock) (hv : ∀ k, v.ownBlock = some k → bs < k) (hb : Below w.heap.size w w1) : Sm w bs H w1 :=
  ⟨h.sums.grown hg (fun e => by have := hv _ e; omega), h.box.grown hg (fun e => by have := hv _ e; have := h.lt; omega), hb, h.lt⟩
theorem Sm.size {w wr : World} {bs : Nat} {H : List W} (h : Sm w bs H wr) : bs < wr.heap.size := h.sums.lt

abbrev Own (wr : World) (N bs : Nat) (v : Value) (xs : List Int) : Prop := (Kd.int .u8).R 5 wr N (fun k => bs < k) v xs
theorem own_empty' (W : World) (base bs : Nat) (h : base ≤ W.heap.size) (hb : bs < W.heap.size) :
    Own (W.alloc (.cells #[] 5)) base bs (.slice (some ⟨W.heap.size, 0, none⟩) 0 0) [] :=
  ⟨fun k hk => by have : W.heap.size = k := by simpa [Value.ownBlock] using hk
                  omega, (own_empty W base h).2.imp_ (fun _ _ h => h)⟩

def lenOf : Value → Nat
  | .slice _ n _ => n
  | _ => 0
theorem C_but {w w' : World} {A : Option Addr} {n : Nat} {l : List Int} {g bs : Nat} (h : (Kd.int .u8).C w A n l) (hb : But g bs w w') (hne : ∀ ad, A = some ad → ad.block ≠ bs ∧ ad.block < g) : (Kd.int .u8).C w' A n l := by
  obtain ⟨h1, h2, h3⟩ := Kd.reads_of_C (enc := Value.int .u8) (d := (0 : Int)) (h1 := fun _ => rfl) h
  refine Kd.C_of_reads (enc := Value.int .u8) (d := (0 : Int)) ⟨h1, h2, fun hn => ?_⟩
  obtain ⟨ad, rfl, hc⟩ := h3 hn
  refine ⟨ad, rfl, fun j hj => ?_⟩
  have hne' := hne ad rfl
  rw [World.cell?_of_block (w := w) (hb.block (ad.add j).block (by rw [Blk.add_block]; exact hne'.2) (by rw [Blk.add_block]; exact hne'.1))]
  exact hc j hj
def be (x : W) : List Int := [u x / 16777216 % 256, u x / 65536 % 256, u x / 256 % 256, u x % 256]
/-- The bytes of the first i words, then noughts. -/
def outp (H : List W) (i : Nat) : List Int := (H.take i).flatMap be ++ List.replicate (32 - 4 * i) 0
theorem below_setRow {B g : Nat} {w w' : World} (h : Below B w w') (hg : B ≤ g) (cs : Array Value) : Below B w (w'.setRow g cs) :=
  h.trans ⟨rfl, rfl, rfl, by simp, fun k hk => setRow_other w' g k cs (by omega)⟩
theorem all_u8 (l : List Int) : ((l.map (Value.int .u8)).toArray).all (·.oneCell') = true := by simp [Value.oneCell']
theorem info_32 : (Try.prog.info? 45).map (·.size) = some 32 := by kernel_rfl
theorem outp_len (a b c d e f g h : W) : (outp [a, b, c, d, e, f, g, h] 8).length = 32 := by rfl
/-- How many noughts are put behind. -/
def zs (L : Nat) : Nat := (119 - L % 64) % 64
/-- The length in bits, as eight bytes. -/
def lenb (L : Nat) : List Int := [56, 48, 40, 32, 24, 16, 8, 0].map fun s => (((8 * L) / 2 ^ s % 256 : Nat) : Int)
/-- A text's end, padded: r is what is left of a text of length L. -/
def padded (r : List Int) (L : Nat) : List Int := r ++ [128] ++ List.replicate (zs L) 0 ++ lenb L

/-- The sum of a text, as 32 bytes. -/
def shaL (l : List Int) : List Int :=
  outp (runs ((padded (l.drop (64 * (l.length / 64))) l.length).length / 64) (padded (l.drop (64 * (l.length / 64))) l.length) (runs (l.length / 64) l IV)) 8

set_option maxHeartbeats 4000000 in
set_option maxRecDepth 100000 in
theorem sum_calls (A : Option Addr) (c : Nat) (l : List Int) (w : World) (hC : (Kd.int .u8).C w A l.length l) (hc : l.length ≤ c) (hl : l.length ≤ 1099511627776) (h8 : ∀ x ∈ l, 0 ≤ x ∧ x < 256) :
    Calls Try.prog 27 #[.slice A l.length c] w fun e w' => e = .returned (.agg ((shaL l).map (Value.int .u8)).toArray) ∧ Below w.heap.size w w' := by
  have HC := As.mk hC
  have H8 := As.mk h8
  have hz := zero_32
  clear hC h8
  go_enter Try.func27, Try.ntmps27
  go_wp2_with (fail)
  refine (begin_calls _).mono ?_
  rintro e w1 ⟨bs, rfl, hbs, hS, hb⟩
  have hbs' : w.heap.size < bs := by have := hbs; simp at this; omega
  have HS : As (Row w1 bs 74 ((runs 0 l IV ++ KK).map V)) := ⟨hS⟩
  have HR : As (Row w1 w.heap.size 45 (List.replicate 32 (.int .u8 0))) := ⟨(Row.new w (List.replicate 32 (.int .u8 0)) 45).below' hb⟩
  have hw : As (Below w.heap.size w w1) := ⟨((Below.refl w.heap.size w).alloc (Nat.le_refl _) _).trans (hb.mono (by simp))⟩
  clear hS hb hbs
  go_wp2
  go_loopw [0] (fun v0 wr => ∃ (j : Nat) (A' : Option Addr) (c' : Nat) (r : List Int), v0 = .slice A' r.length c' ∧ r.length ≤ c' ∧ r.length + 64 * j = l.length ∧ As (r = l.drop (64 * j)) ∧ As ((Kd.int .u8).C w A' r.length r) ∧ As (Sm w bs (runs j l IV) wr)) (fun v0 _ => lenOf v0)
  case atStart => exact ⟨0, A, c, l, rfl, hc, by omega, ⟨by simp⟩, HC, ⟨⟨HS.out, HR.out, hw.out, hbs'⟩⟩⟩
  case round =>
    clear HC HS HR hw
    obtain ⟨j, A', c', r, rfl, hc', hj, Hr, HC, HS⟩ := hrel
    by_cases h64 : 64 ≤ r.length
    · have ht : (r.take 64).length = 64 := by simp; omega
      have hd : (r.drop 64).length = r.length - 64 := by simp
      have hC64 := Kd.C_take HC.out h64
      rw [ht] at hC64
      have hCd := Kd.C_drop HC.out h64 hc'
      rw [hd] at hCd
      have HC64 := As.mk hC64
      have HCd := As.mk hCd
      clear hC64 hCd ht hd
      go_wp2_with (fail)
      refine (take_any bs c' A' (runs j l IV) (r.take 64) wr (runs_len _ _ _ IV_len) (by simp; omega) (fun x hx => H8.out x ?_) HS.out.sums (Kd.C_below HC64.out HS.out.below)).mono ?_
      · have := List.mem_of_mem_take hx
        rw [Hr.out] at this
        exact List.mem_of_mem_drop this
      rintro e w2 ⟨rfl, hS2, hb2⟩
      have hlt := HS.out.box.lt
      have hs2 := below_size HS.out.below
      replace HS : As (Sm w bs (runs (j + 1) l IV) w2) := ⟨⟨by rw [runs_snoc, ← Hr.out]; exact hS2, HS.out.box.but hlt (by omega) hb2, HS.out.below.trans (hb2.below (by omega) (by omega)), hbs'⟩⟩
      clear hS2 hb2
      by_cases hcc : c' = 64
      · subst hcc
        have hr : r.length = 64 := by omega
        go_wp2_with (fail)
        refine ⟨⟨j + 1, A', 0, r.drop 64, by simp [hr], by simp [hr], by simp [hr]; omega, ⟨by rw [Hr.out, List.drop_drop]; rfl⟩, ?_, HS⟩, by simp [lenOf, hr]⟩
        have h1 : (Kd.int .u8).C w A' (r.length - 64) (r.drop 64) := by
          have := HCd.out
          simp only [if_true] at this
          exact this
        exact ⟨by rw [List.length_drop]; exact h1⟩
      · obtain ⟨ad, rfl, _⟩ := Kd.at_int HC.out (0 : Int) (by omega) (by omega)
        go_wp2_with (fail)
        refine ⟨⟨j + 1, some ⟨ad.block, ad.off + 64, none⟩, c' - 64, r.drop 64, by simp, by simp; omega, by simp; omega, ⟨by rw [Hr.out, List.drop_drop]; rfl⟩, ?_, HS⟩, by simp [lenOf]; omega⟩
        have := HCd.out
        rw [if_neg hcc] at this
        refine ⟨?_⟩
        rw [List.length_drop]; exact this
    · have HN := As.mk hbs'
      have hE := As.mk (own_empty' wr w.heap.size bs (below_size HS.out.below) HS.out.size)
      have hCr := As.mk (Kd.C_alloc (Kd.C_below HC.out HS.out.below) (.cells #[] 5))
      replace HS : As (Sm w bs (runs j l IV) (wr.alloc (.cells #[] 5))) := ⟨HS.out.alloc _⟩
      clear hbs'
      go_wp2_with (first
        | ((with_reducible refine gate_builtin (b := .append) (xs := #[.tmp 24, .tmp 25]) rfl ?_); at_builtin; refine Kd.R_append_rows (Kd.int .u8) (Rr := (Kd.int .u8).K (wr.alloc (.cells #[] 5))) (w0 := w) w.heap.size rfl (.tmp 24) (.tmp 25) 23 5 (.int .u8 0) 1 rfl Try.underlying23 info_u8 rfl (by decide) (by omega) (.slice (some ⟨wr.heap.size, 0, none⟩) 0 0) [] r A' r.length c' (fun k => bs < k) (fun _ => False) rfl rfl hE.out hCr.out (fun _ _ h => h) (fun _ hk => hk.elim) (fun k hk => Nat.lt_of_lt_of_le HS.out.size hk) HS.out.below (below_size HS.out.below) (by simp; omega) ?_; intro v1 w1 ho hb1 hg hat; have HO := As.mk ho; have HS1 := As.mk (HS.out.grown hg hE.out.1 hb1); clear ho hb1 hat hg)
        | ((with_reducible refine gate_builtin (b := .append) (xs := #[.tmp 26, .tmp 27]) rfl ?_); at_builtin; refine Kd.R_append (Kd.int .u8) (w0 := w) w.heap.size rfl (.tmp 26) (.tmp 27) 23 5 (.int .u8 0) 1 rfl Try.underlying23 info_u8 rfl (by decide) (by omega) _ ([] ++ r) 128 [.int .u8 128] (fun k => bs < k) (fun _ => False) rfl rfl rfl (fun _ hk => hk.elim) (fun k hk => Nat.lt_of_lt_of_le HS1.out.size hk) HO.out HS1.out.below (below_size HS1.out.below) (by simp; omega) ?_; intro v2 w2 ho hb1 hg hat; have HO2 := As.mk ho; have HS2 := As.mk (HS1.out.grown hg HO.out.1 hb1); clear ho hb1 hat hg)
        | fail)
      clear HS HS1 HO hE hCr
      rw [List.nil_append] at HO2
      go_loopw [5] (fun v5 wr => ∃ z : Nat, z ≤ zs l.length ∧ As (Own wr w.heap.size bs v5 (r ++ [128] ++ List.replicate z 0)) ∧ As (Sm w bs (runs j l IV) wr)) (fun v5 _ => (120 - lenOf v5 % 64) % 64)
      case atStart => exact ⟨0, Nat.zero_le _, by simpa using HO2, HS2⟩
      case round =>
        clear HO2 HS2
        obtain ⟨z, hz', HO, HS⟩ := hrel
        obtain ⟨A5, c5, rfl, hc5, hC5⟩ := Kd.R_reads HO.out
        have hn : (r ++ [128] ++ List.replicate z 0).length = r.length + 1 + z := by simp; omega
        have HC5 := As.mk hC5
        clear hC5
        generalize hxs : r ++ [128] ++ List.replicate z 0 = xs at *
        generalize hnn : xs.length = n at *
        have hzs : zs l.length = (119 - l.length % 64) % 64 := rfl
        have hz64 : z < 64 := by omega
        by_cases hlt : z < zs l.length
        · have ht : ((n : Int) % 64 != 56) = true := by rw [bne_iff_ne]; omega
          have Hxs := As.mk hxs
          have Hn := As.mk hnn
          clear hxs hnn hzs
          go_wp2_with (first
            | ((with_reducible refine gate_builtin (b := .append) (xs := #[.tmp 33, .tmp 34]) rfl ?_); at_builtin; refine Kd.R_append (Kd.int .u8) (w0 := w) w.heap.size rfl (.tmp 33) (.tmp 34) 23 5 (.int .u8 0) 1 rfl Try.underlying23 info_u8 rfl (by decide) (by omega) _ xs 0 [.int .u8 0] (fun k => bs < k) (fun _ => False) rfl rfl rfl (fun _ hk => hk.elim) (fun k hk => Nat.lt_of_lt_of_le HS.out.size hk) HO.out HS.out.below (below_size HS.out.below) (by rw [Hn.out]; omega) ?_; intro v2 w2 ho hb1 hg hat; have HO2 := As.mk ho; have HS2 := As.mk (HS.out.grown hg HO.out.1 hb1); clear ho hb1 hat hg)
            | fail)
          obtain ⟨A6, c6, rfl, hc6, hC6⟩ := Kd.R_reads HO2.out
          have hl6 : (xs ++ [0]).length = n + 1 := by simp [Hn.out]
          refine ⟨⟨z + 1, by omega, ?_, HS2⟩, ?_⟩
          · rw [List.replicate_succ', ← List.append_assoc, Hxs.out]; exact HO2
          · simp only [lenOf, hl6]; have : zs l.length = (119 - l.length % 64) % 64 := rfl
            omega
        · have ht : ((n : Int) % 64 != 56) = false := by rw [bne_eq_false_iff_eq]; omega
          have hzz : z = zs l.length := by omega
          have Hxs := As.mk hxs
          have Hn := As.mk hnn
          have Hzz := As.mk hzz
          have Hn2 := As.mk hn
          have hnb : n ≤ 1099511628000 := by omega
          clear hxs hnn hzs hzz hn
          go_wp2
          clear ht
          go_loopw [5, 6] (fun v5 v6 wr => ∃ (k : Nat) (q : Int), (k, q) ∈ [(0, (56 : Int)), (1, 48), (2, 40), (3, 32), (4, 24), (5, 16), (6, 8), (7, 0), (8, -8)] ∧ v6 = .int .i64 q ∧ As (Own wr w.heap.size bs v5 (xs ++ (lenb l.length).take k)) ∧ As (Sm w bs (runs j l IV) wr)) (fun _ v6 _ => (intOf v6 + 8).toNat)
          case atStart => exact ⟨0, 56, by decide, rfl, by simpa using HO, HS⟩
          case round =>
            clear HO HS HC5
            obtain ⟨k, q, hk, rfl, HO, HS⟩ := hrel
            simp only [List.mem_cons, Prod.mk.injEq, List.not_mem_nil, or_false] at hk
            rcases hk with ⟨rfl, rfl⟩ | ⟨rfl, rfl⟩ | ⟨rfl, rfl⟩ | ⟨rfl, rfl⟩ | ⟨rfl, rfl⟩ | ⟨rfl, rfl⟩ | ⟨rfl, rfl⟩ | ⟨rfl, rfl⟩ | ⟨rfl, rfl⟩
            · go_wp2_with (first
                | ((with_reducible refine gate_builtin (b := .append) (xs := #[.tmp 40, .tmp 45]) rfl ?_); at_builtin; refine Kd.R_append (Kd.int .u8) (w0 := w) w.heap.size rfl (.tmp 40) (.tmp 45) 23 5 (.int .u8 0) 1 rfl Try.underlying23 info_u8 rfl (by decide) (by omega) _ (xs ++ (lenb l.length).take 0) _ [.int .u8 _] (fun k => bs < k) (fun _ => False) rfl rfl rfl (fun _ hk => hk.elim) (fun k hk => Nat.lt_of_lt_of_le HS.out.size hk) HO.out HS.out.below (below_size HS.out.below) (by simp [Hn.out, lenb]; omega) ?_; intro v2 w2 ho hb1 hg hat; have HO2 := As.mk ho; have HS2 := As.mk (HS.out.grown hg HO.out.1 hb1); clear ho hb1 hat hg)
                | fail)
              go_roundw
              case measure => simp [intOf]
              case rel =>
                refine ⟨1, 48, by decide, rfl, ⟨cast (congrArg (Own _ _ _ _) ?_) HO2.out⟩, HS2⟩
                rw [List.append_assoc]
                congr 1
                simp only [lenb, List.map_cons, List.map_nil, List.take_succ_cons, List.take_zero, List.nil_append, List.cons_append, List.cons.injEq, true_and, and_true, Nat.reducePow]
                omega
            · go_wp2_with (first
                | ((with_reducible refine gate_builtin (b := .append) (xs := #[.tmp 40, .tmp 45]) rfl ?_); at_builtin; refine Kd.R_append (Kd.int .u8) (w0 := w) w.heap.size rfl (.tmp 40) (.tmp 45) 23 5 (.int .u8 0) 1 rfl Try.underlying23 info_u8 rfl (by decide) (by omega) _ (xs ++ (lenb l.length).take 1) _ [.int .u8 _] (fun k => bs < k) (fun _ => False) rfl rfl rfl (fun _ hk => hk.elim) (fun k hk => Nat.lt_of_lt_of_le HS.out.size hk) HO.out HS.out.below (below_size HS.out.below) (by simp [Hn.out, lenb]; omega) ?_; intro v2 w2 ho hb1 hg hat; have HO2 := As.mk ho; have HS2 := As.mk (HS.out.grown hg HO.out.1 hb1); clear ho hb1 hat hg)
                | fail)
              go_roundw
              case measure => simp [intOf]
              case rel =>
                refine ⟨2, 40, by decide, rfl, ⟨cast (congrArg (Own _ _ _ _) ?_) HO2.out⟩, HS2⟩
                rw [List.append_assoc]
                congr 1
                simp only [lenb, List.map_cons, List.map_nil, List.take_succ_cons, List.take_zero, List.nil_append, List.cons_append, List.cons.injEq, true_and, and_true, Nat.reducePow]
                omega
            · go_wp2_with (first
                | ((with_reducible refine gate_builtin (b := .append) (xs := #[.tmp 40, .tmp 45]) rfl ?_); at_builtin; refine Kd.R_append (Kd.int .u8) (w0 := w) w.heap.size rfl (.tmp 40) (.tmp 45) 23 5 (.int .u8 0) 1 rfl Try.underlying23 info_u8 rfl (by decide) (by omega) _ (xs ++ (lenb l.length).take 2) _ [.int .u8 _] (fun k => bs < k) (fun _ => False) rfl rfl rfl (fun _ hk => hk.elim) (fun k hk => Nat.lt_of_lt_of_le HS.out.size hk) HO.out HS.out.below (below_size HS.out.below) (by simp [Hn.out, lenb]; omega) ?_; intro v2 w2 ho hb1 hg hat; have HO2 := As.mk ho; have HS2 := As.mk (HS.out.grown hg HO.out.1 hb1); clear ho hb1 hat hg)
                | fail)
              go_roundw
              case measure => simp [intOf]
              case rel =>
                refine ⟨3, 32, by decide, rfl, ⟨cast (congrArg (Own _ _ _ _) ?_) HO2.out⟩, HS2⟩
                rw [List.append_assoc]
                congr 1
                simp only [lenb, List.map_cons, List.map_nil, List.take_succ_cons, List.take_zero, List.nil_append, List.cons_append, List.cons.injEq, true_and, and_true, Nat.reducePow]
                omega
            · go_wp2_with (first
                | ((with_reducible refine gate_builtin (b := .append) (xs := #[.tmp 40, .tmp 45]) rfl ?_); at_builtin; refine Kd.R_append (Kd.int .u8) (w0 := w) w.heap.size rfl (.tmp 40) (.tmp 45) 23 5 (.int .u8 0) 1 rfl Try.underlying23 info_u8 rfl (by decide) (by omega) _ (xs ++ (lenb l.length).take 3) _ [.int .u8 _] (fun k => bs < k) (fun _ => False) rfl rfl rfl (fun _ hk => hk.elim) (fun k hk => Nat.lt_of_lt_of_le HS.out.size hk) HO.out HS.out.below (below_size HS.out.below) (by simp [Hn.out, lenb]; omega) ?_; intro v2 w2 ho hb1 hg hat; have HO2 := As.mk ho; have HS2 := As.mk (HS.out.grown hg HO.out.1 hb1); clear ho hb1 hat hg)
                | fail)
              go_roundw
              case measure => simp [intOf]
              case rel =>
                refine ⟨4, 24, by decide, rfl, ⟨cast (congrArg (Own _ _ _ _) ?_) HO2.out⟩, HS2⟩
                rw [List.append_assoc]
                congr 1
                simp only [lenb, List.map_cons, List.map_nil, List.take_succ_cons, List.take_zero, List.nil_append, List.cons_append, List.cons.injEq, true_and, and_true, Nat.reducePow]
                omega
            · go_wp2_with (first
                | ((with_reducible refine gate_builtin (b := .append) (xs := #[.tmp 40, .tmp 45]) rfl ?_); at_builtin; refine Kd.R_append (Kd.int .u8) (w0 := w) w.heap.size rfl (.tmp 40) (.tmp 45) 23 5 (.int .u8 0) 1 rfl Try.underlying23 info_u8 rfl (by decide) (by omega) _ (xs ++ (lenb l.length).take 4) _ [.int .u8 _] (fun k => bs < k) (fun _ => False) rfl rfl rfl (fun _ hk => hk.elim) (fun k hk => Nat.lt_of_lt_of_le HS.out.size hk) HO.out HS.out.below (below_size HS.out.below) (by simp [Hn.out, lenb]; omega) ?_; intro v2 w2 ho hb1 hg hat; have HO2 := As.mk ho; have HS2 := As.mk (HS.out.grown hg HO.out.1 hb1); clear ho hb1 hat hg)
                | fail)
              go_roundw
              case measure => simp [intOf]
              case rel =>
                refine ⟨5, 16, by decide, rfl, ⟨cast (congrArg (Own _ _ _ _) ?_) HO2.out⟩, HS2⟩
                rw [List.append_assoc]
                congr 1
                simp only [lenb, List.map_cons, List.map_nil, List.take_succ_cons, List.take_zero, List.nil_append, List.cons_append, List.cons.injEq, true_and, and_true, Nat.reducePow]
                omega
            · go_wp2_with (first
                | ((with_reducible refine gate_builtin (b := .append) (xs := #[.tmp 40, .tmp 45]) rfl ?_); at_builtin; refine Kd.R_append (Kd.int .u8) (w0 := w) w.heap.size rfl (.tmp 40) (.tmp 45) 23 5 (.int .u8 0) 1 rfl Try.underlying23 info_u8 rfl (by decide) (by omega) _ (xs ++ (lenb l.length).take 5) _ [.int .u8 _] (fun k => bs < k) (fun _ => False) rfl rfl rfl (fun _ hk => hk.elim) (fun k hk => Nat.lt_of_lt_of_le HS.out.size hk) HO.out HS.out.below (below_size HS.out.below) (by simp [Hn.out, lenb]; omega) ?_; intro v2 w2 ho hb1 hg hat; have HO2 := As.mk ho; have HS2 := As.mk (HS.out.grown hg HO.out.1 hb1); clear ho hb1 hat hg)
                | fail)
              go_roundw
              case measure => simp [intOf]
              case rel =>
                refine ⟨6, 8, by decide, rfl, ⟨cast (congrArg (Own _ _ _ _) ?_) HO2.out⟩, HS2⟩
                rw [List.append_assoc]
                congr 1
                simp only [lenb, List.map_cons, List.map_nil, List.take_succ_cons, List.take_zero, List.nil_append, List.cons_append, List.cons.injEq, true_and, and_true, Nat.reducePow]
                omega
            · go_wp2_with (first
                | ((with_reducible refine gate_builtin (b := .append) (xs := #[.tmp 40, .tmp 45]) rfl ?_); at_builtin; refine Kd.R_append (Kd.int .u8) (w0 := w) w.heap.size rfl (.tmp 40) (.tmp 45) 23 5 (.int .u8 0) 1 rfl Try.underlying23 info_u8 rfl (by decide) (by omega) _ (xs ++ (lenb l.length).take 6) _ [.int .u8 _] (fun k => bs < k) (fun _ => False) rfl rfl rfl (fun _ hk => hk.elim) (fun k hk => Nat.lt_of_lt_of_le HS.out.size hk) HO.out HS.out.below (below_size HS.out.below) (by simp [Hn.out, lenb]; omega) ?_; intro v2 w2 ho hb1 hg hat; have HO2 := As.mk ho; have HS2 := As.mk (HS.out.grown hg HO.out.1 hb1); clear ho hb1 hat hg)
                | fail)
              go_roundw
              case measure => simp [intOf]
              case rel =>
                refine ⟨7, 0, by decide, rfl, ⟨cast (congrArg (Own _ _ _ _) ?_) HO2.out⟩, HS2⟩
                rw [List.append_assoc]
                congr 1
                simp only [lenb, List.map_cons, List.map_nil, List.take_succ_cons, List.take_zero, List.nil_append, List.cons_append, List.cons.injEq, true_and, and_true, Nat.reducePow]
                omega
            · go_wp2_with (first
                | ((with_reducible refine gate_builtin (b := .append) (xs := #[.tmp 40, .tmp 45]) rfl ?_); at_builtin; refine Kd.R_append (Kd.int .u8) (w0 := w) w.heap.size rfl (.tmp 40) (.tmp 45) 23 5 (.int .u8 0) 1 rfl Try.underlying23 info_u8 rfl (by decide) (by omega) _ (xs ++ (lenb l.length).take 7) _ [.int .u8 _] (fun k => bs < k) (fun _ => False) rfl rfl rfl (fun _ hk => hk.elim) (fun k hk => Nat.lt_of_lt_of_le HS.out.size hk) HO.out HS.out.below (below_size HS.out.below) (by simp [Hn.out, lenb]; omega) ?_; intro v2 w2 ho hb1 hg hat; have HO2 := As.mk ho; have HS2 := As.mk (HS.out.grown hg HO.out.1 hb1); clear ho hb1 hat hg)
                | fail)
              go_roundw
              case measure => simp [intOf]
              case rel =>
                refine ⟨8, -8, by decide, rfl, ⟨cast (congrArg (Own _ _ _ _) ?_) HO2.out⟩, HS2⟩
                rw [List.append_assoc]
                congr 1
                simp only [lenb, List.map_cons, List.map_nil, List.take_succ_cons, List.take_zero, List.nil_append, List.cons_append, List.cons.injEq, true_and, and_true, Nat.reducePow]
                omega
            · have h8 : (lenb l.length).take 8 = lenb l.length := rfl
              rw [h8] at HO
              have hbo := Kd.R_bound HO.out
              obtain ⟨A6, c6, rfl, hc6, hC6⟩ := Kd.R_reads HO.out
              have hne6 : ∀ ad, A6 = some ad → bs < ad.block ∧ ad.block < wr.heap.size := by
                rintro ad rfl
                have := hbo.1 ad.block (by simp [Value.ownBlock])
                exact ⟨this.1, this.2.2.1⟩
              have hpd : xs ++ lenb l.length = padded r l.length := by rw [← Hxs.out, Hzz.out]; rfl
              rw [hpd] at hC6 hc6 HO
              rw [hpd]
              have hpl : (padded r l.length).length = n + 8 := by rw [← hpd]; simp [Hn.out, lenb]
              have hp64 : (padded r l.length).length % 64 = 0 := by
                have h1 := Hn2.out
                have h2 := Hzz.out
                have h3 : zs l.length = (119 - l.length % 64) % 64 := rfl
                omega
              have hp8 : ∀ x ∈ padded r l.length, 0 ≤ x ∧ x < 256 := by
                intro x hx
                simp only [padded, lenb, List.mem_append, List.mem_cons, List.not_mem_nil, or_false, List.mem_replicate, List.map_cons, List.map_nil] at hx
                rcases hx with ((hx | hx) | hx) | hx
                · exact H8.out x (by rw [Hr.out] at hx; exact List.mem_of_mem_drop hx)
                · omega
                · omega
                · omega
              generalize hpp : padded r l.length = p at *
              have HP := As.mk hpp
              have HPL := As.mk hpl
              have HP64 := As.mk hp64
              have HP8 := As.mk hp8
              have HC6 := As.mk hC6
              have HE6 := As.mk hne6
              have hpb : p.length ≤ 1099511628100 := by omega
              clear hpp hpl hp64 hp8 hC6 hne6 hbo HO h8 hpd
              go_wp2
              have hlw := HS.out.size
              obtain ⟨wo, hwo⟩ : ∃ wo : World, wo = wr := ⟨_, rfl⟩
              subst hwo
              go_loopw [5] (fun v5 wx => ∃ (k : Nat) (A7 : Option Addr) (c7 : Nat) (q : List Int), v5 = .slice A7 q.length c7 ∧ q.length ≤ c7 ∧ q.length + 64 * k = p.length ∧ As (q = p.drop (64 * k)) ∧ As (∀ ad, A7 = some ad → bs < ad.block ∧ ad.block < wo.heap.size) ∧ As ((Kd.int .u8).C wo A7 q.length q) ∧ As (But wo.heap.size bs wo wx) ∧ As (Sm w bs (runs k p (runs j l IV)) wx)) (fun v5 _ => lenOf v5)
              case atStart => exact ⟨0, A6, c6, p, rfl, hc6, by omega, ⟨by simp⟩, HE6, HC6, ⟨But.refl _ _ _⟩, HS⟩
              case round =>
                clear HE6 HC6 HS hc6
                obtain ⟨k, A7, c7, q, rfl, hc7, hk, Hq, HE7, HC7, HB7, HS⟩ := hrel
                by_cases hq : 0 < q.length
                · have hq64 : 64 ≤ q.length := by
                    have := HP64.out
                    omega
                  have ht : (q.take 64).length = 64 := by simp; omega
                  have hd : (q.drop 64).length = q.length - 64 := by simp
                  have hC64 := Kd.C_take HC7.out hq64
                  rw [ht] at hC64
                  have hCd := Kd.C_drop HC7.out hq64 hc7
                  rw [hd] at hCd
                  have HC64 := As.mk (C_but hC64 HB7.out (fun ad h => ⟨by have := HE7.out ad h; omega, (HE7.out ad h).2⟩))
                  have HCd := As.mk hCd
                  clear hC64 hCd ht hd
                  go_wp2_with (fail)
                  refine (take_any bs c7 A7 (runs k p (runs j l IV)) (q.take 64) wr (runs_len _ _ _ (runs_len _ _ _ IV_len)) (by simp; omega) (fun x hx => HP8.out x ?_) HS.out.sums HC64.out).mono ?_
                  · have := List.mem_of_mem_take hx
                    rw [Hq.out] at this
                    exact List.mem_of_mem_drop this
                  rintro e w2 ⟨rfl, hS2, hb2⟩
                  have hlt := HS.out.box.lt
                  have hs2 := below_size HS.out.below
                  have hbs' := HN.out
                  have hszx := HB7.out.size
                  replace HS : As (Sm w bs (runs (k + 1) p (runs j l IV)) w2) := ⟨⟨by rw [runs_snoc, ← Hq.out]; exact hS2, HS.out.box.but hlt (by omega) hb2, HS.out.below.trans (hb2.below (by omega) (by omega)), hbs'⟩⟩
                  replace HB7 : As (But wo.heap.size bs wo w2) := ⟨HB7.out.trans (hb2.mono hszx)⟩
                  clear hS2 hb2 hlt hs2 hbs' hszx
                  by_cases hcc : c7 = 64
                  · subst hcc
                    have hr : q.length = 64 := by omega
                    go_wp2_with (fail)
                    refine ⟨⟨k + 1, A7, 0, q.drop 64, by simp [hr], by simp [hr], by simp [hr]; omega, ⟨by rw [Hq.out, List.drop_drop]; rfl⟩, HE7, ?_, HB7, HS⟩, by simp [lenOf, hr]⟩
                    have h1 : (Kd.int .u8).C wo A7 (q.length - 64) (q.drop 64) := by
                      have := HCd.out
                      simp only [if_true] at this
                      exact this
                    exact ⟨by rw [List.length_drop]; exact h1⟩
                  · obtain ⟨ad, rfl, _⟩ := Kd.at_int HC7.out (0 : Int) (by omega) (by omega)
                    go_wp2_with (fail)
                    refine ⟨⟨k + 1, some ⟨ad.block, ad.off + 64, none⟩, c7 - 64, q.drop 64, by simp, by simp; omega, by simp; omega, ⟨by rw [Hq.out, List.drop_drop]; rfl⟩, ⟨fun ad' h => by cases h; exact HE7.out ad rfl⟩, ?_, HB7, HS⟩, by simp [lenOf]; omega⟩
                    have := HCd.out
                    rw [if_neg hcc] at this
                    refine ⟨?_⟩
                    rw [List.length_drop]; exact this
                · have hq0 : q.length = 0 := by omega
                  have hkk : runs k p (runs j l IV) = runs (p.length / 64) p (runs j l IV) := by rw [show k = p.length / 64 by omega]
                  rw [hkk] at HS
                  obtain ⟨a, b, c, d, e, f, g, h, hH⟩ : ∃ a b c d e f g h, runs (p.length / 64) p (runs j l IV) = [a, b, c, d, e, f, g, h] := by
                    have := runs_len (p.length / 64) p _ (runs_len j l _ IV_len)
                    match runs (p.length / 64) p (runs j l IV), this with
                    | [a, b, c, d, e, f, g, h], _ => exact ⟨a, b, c, d, e, f, g, h, rfl⟩
                  rw [hH] at HS
                  have HHH := As.mk hH
                  have c0 := HS.out.sums.cell (i := 0) (v := V a) (by simp)
                  have c1 := HS.out.sums.cell (i := 1) (v := V b) (by simp)
                  have c2 := HS.out.sums.cell (i := 2) (v := V c) (by simp)
                  have c3 := HS.out.sums.cell (i := 3) (v := V d) (by simp)
                  have c4 := HS.out.sums.cell (i := 4) (v := V e) (by simp)
                  have c5 := HS.out.sums.cell (i := 5) (v := V f) (by simp)
                  have c6 := HS.out.sums.cell (i := 6) (v := V g) (by simp)
                  have c7 := HS.out.sums.cell (i := 7) (v := V h) (by simp)
                  unfold V at c0 c1 c2 c3 c4 c5 c6 c7
                  clear hH hkk
                  have hbl := HS.out.size
                  go_wp2_with (fail)
                  have hG : As (Row (wr.alloc (.cells Z32 45)) wr.heap.size 45 ((outp [a, b, c, d, e, f, g, h] 0).map (Value.int .u8))) := ⟨Row.new wr (List.replicate 32 (.int .u8 0)) 45⟩
                  have hBX : As (Row (wr.alloc (.cells Z32 45)) w.heap.size 45 (List.replicate 32 (.int .u8 0))) := ⟨HS.out.box.alloc _⟩
                  have hBL : As (Below w.heap.size w (wr.alloc (.cells Z32 45))) := ⟨HS.out.below.alloc (below_size HS.out.below) _⟩
                  have hg : w.heap.size < wr.heap.size := by have := HN.out; omega
                  clear c0 c1 c2 c3 c4 c5 c6 c7 hbl
                  obtain ⟨wo2, hwo⟩ : ∃ wo : World, wo = wr := ⟨_, rfl⟩
                  subst hwo
                  go_loopw [60] (fun v60 wr => ∃ i : Nat, i ≤ 8 ∧ v60 = .int .i64 i ∧ As (Row wr wo2.heap.size 45 ((outp [a, b, c, d, e, f, g, h] i).map (Value.int .u8))) ∧ As (Row wr w.heap.size 45 (List.replicate 32 (.int .u8 0))) ∧ As (Below w.heap.size w wr)) (fun v60 _ => 8 - (intOf v60).toNat)
                  case atStart => exact ⟨0, by omega, rfl, hG, hBX, hBL⟩
                  case round =>
                    clear hG hBX hBL HS HB7 HC7 HE7
                    obtain ⟨i, hi, rfl, hG, hBX, hBL⟩ := hrel
                    have fk : ∀ (o : Nat) (s : Option Nat), wr.frozen? ⟨wo2.heap.size, o, s⟩ = false := fun o s => hG.out.free o s
                    rcases (show i = 0 ∨ i = 1 ∨ i = 2 ∨ i = 3 ∨ i = 4 ∨ i = 5 ∨ i = 6 ∨ i = 7 ∨ i = 8 by omega) with rfl | rfl | rfl | rfl | rfl | rfl | rfl | rfl | rfl
                    · have k0 := hG.out.cell (i := 0) (v := .int .u8 0) (by rfl)
                      have k1 := hG.out.cell (i := 1) (v := .int .u8 0) (by rfl)
                      have k2 := hG.out.cell (i := 2) (v := .int .u8 0) (by rfl)
                      have k3 := hG.out.cell (i := 3) (v := .int .u8 0) (by rfl)
                      have ix := idx0 (.int .u32 (u a)) (.int .u32 (u b)) (.int .u32 (u c)) (.int .u32 (u d)) (.int .u32 (u e)) (.int .u32 (u f)) (.int .u32 (u g)) (.int .u32 (u h))
                      have ub := u_lt a
                      have ub0 := u_nonneg a
                      go_wp2
                      refine ⟨⟨1, by omega, rfl, ⟨?_⟩, ⟨(((hBX.out.set_ne (by simp; omega) _).set_ne (by simp; omega) _).set_ne (by simp; omega) _).set_ne (by simp; omega) _⟩, ⟨(((hBL.out.setCell (by simp; omega) _).setCell (by simp; omega) _).setCell (by simp; omega) _).setCell (by simp; omega) _⟩⟩, by simp [intOf]⟩
                      rw [show u a / 16777216 = u a / 16777216 % 256 from by omega]
                      exact (((hG.out.set 0 _).set 1 _).set 2 _).set 3 _
                    · have k0 := hG.out.cell (i := 4) (v := .int .u8 0) (by rfl)
                      have k1 := hG.out.cell (i := 5) (v := .int .u8 0) (by rfl)
                      have k2 := hG.out.cell (i := 6) (v := .int .u8 0) (by rfl)
                      have k3 := hG.out.cell (i := 7) (v := .int .u8 0) (by rfl)
                      have ix := idx1 (.int .u32 (u a)) (.int .u32 (u b)) (.int .u32 (u c)) (.int .u32 (u d)) (.int .u32 (u e)) (.int .u32 (u f)) (.int .u32 (u g)) (.int .u32 (u h))
                      have ub := u_lt b
                      have ub0 := u_nonneg b
                      go_wp2
                      refine ⟨⟨2, by omega, rfl, ⟨?_⟩, ⟨(((hBX.out.set_ne (by simp; omega) _).set_ne (by simp; omega) _).set_ne (by simp; omega) _).set_ne (by simp; omega) _⟩, ⟨(((hBL.out.setCell (by simp; omega) _).setCell (by simp; omega) _).setCell (by simp; omega) _).setCell (by simp; omega) _⟩⟩, by simp [intOf]⟩
                      rw [show u b / 16777216 = u b / 16777216 % 256 from by omega]
                      exact (((hG.out.set 4 _).set 5 _).set 6 _).set 7 _
                    · have k0 := hG.out.cell (i := 8) (v := .int .u8 0) (by rfl)
                      have k1 := hG.out.cell (i := 9) (v := .int .u8 0) (by rfl)
                      have k2 := hG.out.cell (i := 10) (v := .int .u8 0) (by rfl)
                      have k3 := hG.out.cell (i := 11) (v := .int .u8 0) (by rfl)
                      have ix := idx2 (.int .u32 (u a)) (.int .u32 (u b)) (.int .u32 (u c)) (.int .u32 (u d)) (.int .u32 (u e)) (.int .u32 (u f)) (.int .u32 (u g)) (.int .u32 (u h))
                      have ub := u_lt c
                      have ub0 := u_nonneg c
                      go_wp2
                      refine ⟨⟨3, by omega, rfl, ⟨?_⟩, ⟨(((hBX.out.set_ne (by simp; omega) _).set_ne (by simp; omega) _).set_ne (by simp; omega) _).set_ne (by simp; omega) _⟩, ⟨(((hBL.out.setCell (by simp; omega) _).setCell (by simp; omega) _).setCell (by simp; omega) _).setCell (by simp; omega) _⟩⟩, by simp [intOf]⟩
                      rw [show u c / 16777216 = u c / 16777216 % 256 from by omega]
                      exact (((hG.out.set 8 _).set 9 _).set 10 _).set 11 _
                    · have k0 := hG.out.cell (i := 12) (v := .int .u8 0) (by rfl)
                      have k1 := hG.out.cell (i := 13) (v := .int .u8 0) (by rfl)
                      have k2 := hG.out.cell (i := 14) (v := .int .u8 0) (by rfl)
                      have k3 := hG.out.cell (i := 15) (v := .int .u8 0) (by rfl)
                      have ix := idx3 (.int .u32 (u a)) (.int .u32 (u b)) (.int .u32 (u c)) (.int .u32 (u d)) (.int .u32 (u e)) (.int .u32 (u f)) (.int .u32 (u g)) (.int .u32 (u h))
                      have ub := u_lt d
                      have ub0 := u_nonneg d
                      go_wp2
                      refine ⟨⟨4, by omega, rfl, ⟨?_⟩, ⟨(((hBX.out.set_ne (by simp; omega) _).set_ne (by simp; omega) _).set_ne (by simp; omega) _).set_ne (by simp; omega) _⟩, ⟨(((hBL.out.setCell (by simp; omega) _).setCell (by simp; omega) _).setCell (by simp; omega) _).setCell (by simp; omega) _⟩⟩, by simp [intOf]⟩
                      rw [show u d / 16777216 = u d / 16777216 % 256 from by omega]
                      exact (((hG.out.set 12 _).set 13 _).set 14 _).set 15 _
                    · have k0 := hG.out.cell (i := 16) (v := .int .u8 0) (by rfl)
                      have k1 := hG.out.cell (i := 17) (v := .int .u8 0) (by rfl)
                      have k2 := hG.out.cell (i := 18) (v := .int .u8 0) (by rfl)
                      have k3 := hG.out.cell (i := 19) (v := .int .u8 0) (by rfl)
                      have ix := idx4 (.int .u32 (u a)) (.int .u32 (u b)) (.int .u32 (u c)) (.int .u32 (u d)) (.int .u32 (u e)) (.int .u32 (u f)) (.int .u32 (u g)) (.int .u32 (u h))
                      have ub := u_lt e
                      have ub0 := u_nonneg e
                      go_wp2
                      refine ⟨⟨5, by omega, rfl, ⟨?_⟩, ⟨(((hBX.out.set_ne (by simp; omega) _).set_ne (by simp; omega) _).set_ne (by simp; omega) _).set_ne (by simp; omega) _⟩, ⟨(((hBL.out.setCell (by simp; omega) _).setCell (by simp; omega) _).setCell (by simp; omega) _).setCell (by simp; omega) _⟩⟩, by simp [intOf]⟩
                      rw [show u e / 16777216 = u e / 16777216 % 256 from by omega]
                      exact (((hG.out.set 16 _).set 17 _).set 18 _).set 19 _
                    · have k0 := hG.out.cell (i := 20) (v := .int .u8 0) (by rfl)
                      have k1 := hG.out.cell (i := 21) (v := .int .u8 0) (by rfl)
                      have k2 := hG.out.cell (i := 22) (v := .int .u8 0) (by rfl)
                      have k3 := hG.out.cell (i := 23) (v := .int .u8 0) (by rfl)
                      have ix := idx5 (.int .u32 (u a)) (.int .u32 (u b)) (.int .u32 (u c)) (.int .u32 (u d)) (.int .u32 (u e)) (.int .u32 (u f)) (.int .u32 (u g)) (.int .u32 (u h))
                      have ub := u_lt f
                      have ub0 := u_nonneg f
                      go_wp2
                      refine ⟨⟨6, by omega, rfl, ⟨?_⟩, ⟨(((hBX.out.set_ne (by simp; omega) _).set_ne (by simp; omega) _).set_ne (by simp; omega) _).set_ne (by simp; omega) _⟩, ⟨(((hBL.out.setCell (by simp; omega) _).setCell (by simp; omega) _).setCell (by simp; omega) _).setCell (by simp; omega) _⟩⟩, by simp [intOf]⟩
                      rw [show u f / 16777216 = u f / 16777216 % 256 from by omega]
                      exact (((hG.out.set 20 _).set 21 _).set 22 _).set 23 _
                    · have k0 := hG.out.cell (i := 24) (v := .int .u8 0) (by rfl)
                      have k1 := hG.out.cell (i := 25) (v := .int .u8 0) (by rfl)
                      have k2 := hG.out.cell (i := 26) (v := .int .u8 0) (by rfl)
                      have k3 := hG.out.cell (i := 27) (v := .int .u8 0) (by rfl)
                      have ix := idx6 (.int .u32 (u a)) (.int .u32 (u b)) (.int .u32 (u c)) (.int .u32 (u d)) (.int .u32 (u e)) (.int .u32 (u f)) (.int .u32 (u g)) (.int .u32 (u h))
                      have ub := u_lt g
                      have ub0 := u_nonneg g
                      go_wp2
                      refine ⟨⟨7, by omega, rfl, ⟨?_⟩, ⟨(((hBX.out.set_ne (by simp; omega) _).set_ne (by simp; omega) _).set_ne (by simp; omega) _).set_ne (by simp; omega) _⟩, ⟨(((hBL.out.setCell (by simp; omega) _).setCell (by simp; omega) _).setCell (by simp; omega) _).setCell (by simp; omega) _⟩⟩, by simp [intOf]⟩
                      rw [show u g / 16777216 = u g / 16777216 % 256 from by omega]
                      exact (((hG.out.set 24 _).set 25 _).set 26 _).set 27 _
                    · have k0 := hG.out.cell (i := 28) (v := .int .u8 0) (by rfl)
                      have k1 := hG.out.cell (i := 29) (v := .int .u8 0) (by rfl)
                      have k2 := hG.out.cell (i := 30) (v := .int .u8 0) (by rfl)
                      have k3 := hG.out.cell (i := 31) (v := .int .u8 0) (by rfl)
                      have ix := idx7 (.int .u32 (u a)) (.int .u32 (u b)) (.int .u32 (u c)) (.int .u32 (u d)) (.int .u32 (u e)) (.int .u32 (u f)) (.int .u32 (u g)) (.int .u32 (u h))
                      have ub := u_lt h
                      have ub0 := u_nonneg h
                      go_wp2
                      refine ⟨⟨8, by omega, rfl, ⟨?_⟩, ⟨(((hBX.out.set_ne (by simp; omega) _).set_ne (by simp; omega) _).set_ne (by simp; omega) _).set_ne (by simp; omega) _⟩, ⟨(((hBL.out.setCell (by simp; omega) _).setCell (by simp; omega) _).setCell (by simp; omega) _).setCell (by simp; omega) _⟩⟩, by simp [intOf]⟩
                      rw [show u h / 16777216 = u h / 16777216 % 256 from by omega]
                      exact (((hG.out.set 28 _).set 29 _).set 30 _).set 31 _
                    · go_wp2_with (first
                        | (refine wpList_load_row rfl 45 (.tmp 7) rfl wo2.heap.size rfl 45 _ (0, 0) _ hG.out Try.underlying45 rfl (by kernel_rfl) ?_)
                        | (refine wpList_store_row rfl 45 (.tmp 2) (.tmp 91) rfl w.heap.size ((outp [a, b, c, d, e, f, g, h] 8).map (Value.int .u8)).toArray rfl rfl 45 _ hBX.out (by rw [info_32]; simp [outp_len]) (by simp [outp_len]) (all_u8 _) ?_)
                        | fail)
                      refine bodyPost_ret (v := .agg ((outp [a, b, c, d, e, f, g, h] 8).map (Value.int .u8)).toArray) (results_cell_row rfl _ _ w.heap.size 45 _ (0, 0) _ rfl (setRow_heap _ _ _ _ _ _ hBX.out) Try.underlying45 rfl (by rw [info_32]; simp [outp_len])) rfl ⟨?_, below_setRow hBL.out (Nat.le_refl _) _⟩
                      rw [shaL, ← HHH.out, ← HP.out, Hr.out, show j = l.length / 64 by omega]
end Go.Proofs.Ytonhmjodgomeiaa.Dg

/- The contract of digest.Name. -/
namespace Go.Proofs.Ytonhmjodgomeiaa.Dg
open Go.RowKit Blk Go.Proofs.YtonhmjodgomeiaaW.PrintWords Go.Proofs.YtonhmjodgomeiaaW.PrintLast Go.Proofs.YtonhmjodgomeiaaW.PrintMore
set_option linter.unusedVariables false
set_option linter.unusedSimpArgs false

/-- The digit of a number below 16. -/
def hexd (n : Int) : Int := if n < 10 then 48 + n else 87 + n
def nameL (r : List Int) : List Int := r.flatMap fun c => [hexd (c / 16), hexd (c % 16)]
theorem index_32 (r : List Int) (i : Nat) (hr : r.length = 32) (hi : i < 32) (w : World) :
    (Instr.index 45 (.agg (r.map (Value.int .u8)).toArray) (.int .i64 (i : Int))).run Try.prog w = .ok (.int .u8 (r.getD i 0)) w := by
  have hs : (Try.prog.info? 5).map (·.size) = some 1 := by kernel_rfl
  obtain ⟨inf, h1, h2⟩ := Option.map_eq_some_iff.1 hs
  have h3 : (i : Int) < 32 := by omega
  simp [Instr.index, asIntOf, Try.underlying45, h3, sizeOf, typeInfo, h1, h2, part]
  have h4 : i < r.length := by omega
  rw [if_pos hi]
  simp [h4]
theorem C_new2 (W : World) (x y : Int) : (Kd.int .u8).C (W.alloc (.cells #[.int .u8 x, .int .u8 y] 5)) (some ⟨W.heap.size, 0, none⟩) 2 [x, y] := by
  refine Kd.C_of_reads (enc := Value.int .u8) (d := (0 : Int)) ⟨rfl, by decide, fun _ => ⟨_, rfl, fun j hj => ?_⟩⟩
  have h := Row.new W [.int .u8 x, .int .u8 y] 5
  rcases (show j = 0 ∨ j = 1 by omega) with rfl | rfl
  · exact h.cell (i := 0) rfl
  · exact h.cell (i := 1) rfl
theorem outp_len8 (H : List W) (h : H.length = 8) : (outp H 8).length = 32 := by
  match H, h with
  | [a, b, c, d, e, f, g, h], _ => rfl
theorem shaL_len (l : List Int) : (shaL l).length = 32 := outp_len8 _ (runs_len _ _ _ (runs_len _ _ _ IV_len))
theorem nameL_len (r : List Int) : (nameL r).length = 2 * r.length := by
  induction r with
  | nil => rfl
  | cons a r ih => simp [nameL] at ih ⊢; omega
theorem shaL_8 (l : List Int) : ∀ x ∈ shaL l, 0 ≤ x ∧ x < 256 := by
  unfold shaL outp
  intro x hx
  simp only [List.mem_append, List.mem_flatMap, be, List.mem_cons, List.not_mem_nil, or_false, List.mem_replicate] at hx
  rcases hx with ⟨a, _, h⟩ | h <;> omega


def digs : ByteArray := ⟨#[48, 49, 50, 51, 52, 53, 54, 55, 56, 57, 97, 98, 99, 100, 101, 102]⟩
theorem digit_at (n : Int) (h0 : 0 ≤ n) (h1 : n < 16) (w : World) :
    (Instr.index 9 (.string ⟨#[48, 49, 50, 51, 52, 53, 54, 55, 56, 57, 97, 98, 99, 100, 101, 102]⟩) (.int .u8 n)).run Try.prog w = .ok (.int .u8 (hexd n)) w := by
  rcases (show n = 0 ∨ n = 1 ∨ n = 2 ∨ n = 3 ∨ n = 4 ∨ n = 5 ∨ n = 6 ∨ n = 7 ∨ n = 8 ∨ n = 9 ∨ n = 10 ∨ n = 11 ∨ n = 12 ∨ n = 13 ∨ n = 14 ∨ n = 15 by omega) with rfl | rfl | rfl | rfl | rfl | rfl | rfl | rfl | rfl | rfl | rfl | rfl | rfl | rfl | rfl | rfl <;> kernel_rfl
theorem hexd_8 (n : Int) (h0 : 0 ≤ n) (h1 : n < 16) : 0 ≤ hexd n ∧ hexd n < 256 := by unfold hexd; split <;> omega
theorem nameL_snoc (r : List Int) (i : Nat) (h : i < r.length) : nameL (r.take (i + 1)) = nameL (r.take i) ++ [hexd (r.getD i 0 / 16), hexd (r.getD i 0 % 16)] := by
  rw [List.take_succ_eq_append_getElem h, nameL, List.flatMap_append]
  simp [nameL, h]

end Go.Proofs.Ytonhmjodgomeiaa.Dg

/- digest.Named, and when two sums are one. No condition. -/
namespace Go.Proofs.Ytonhmjodgomeiaa.Dg
open Go.RowKit Blk Go.Proofs.YtonhmjodgomeiaaW.PrintWords Go.Proofs.YtonhmjodgomeiaaW.PrintLast Go.Proofs.YtonhmjodgomeiaaW.PrintMore
set_option linter.unusedVariables false
set_option linter.unusedSimpArgs false

def hexc (n : Int) : Bool := (decide (48 ≤ n) && decide (n ≤ 57)) || (decide (97 ≤ n) && decide (n ≤ 102))
/-- May a text be a name? -/
def namedL (l : List Int) : Bool := decide (l.length = 64) && l.all hexc

theorem named_l0 (s : ByteArray) (hs : s.size ≤ 4611686018427387904) : ∀ (d k i : Nat), i ≤ s.size → s.size - i = d → d < k →
    Dl.digest_Named.l0 k s (s.size : Int) (i : Int) = some (((bytesOf s).drop i).all hexc && decide (s.size = 64)) := by
  intro d
  induction d with
  | zero =>
    intro k i hi hd hk
    obtain ⟨k, rfl⟩ : ∃ m, k = m + 1 := ⟨k - 1, by omega⟩
    simp only [Dl.digest_Named.l0]
    rw [if_neg (by omega), List.drop_of_length_le (by rw [bytesOf_length]; omega)]
    simp
    rw [Bool.eq_iff_iff]
    simp
    omega
  | succ d ih =>
    intro k i hi hd hk
    obtain ⟨k, rfl⟩ : ∃ m, k = m + 1 := ⟨k - 1, by omega⟩
    have hlt : i < s.size := by omega
    have hw : wrap64 ((i : Int) + 1) = ((i + 1 : Nat) : Int) := by unfold wrap64; omega
    have hd1 : (bytesOf s).drop i = bt s i :: (bytesOf s).drop (i + 1) := by
      rw [List.drop_eq_getElem_cons (by rw [bytesOf_length]; exact hlt)]
      congr 1
      rw [← rd_bytesOf]
      simp [rd, bytesOf_length, hlt]
    have ih' := ih k (i + 1) (by omega) (by omega) (by omega)
    simp only [Dl.digest_Named.l0]
    rw [if_pos (by omega), if_pos (by omega), if_pos (by omega), hw, ih', hd1, List.all_cons]
    generalize bt s i = c
    generalize ((bytesOf s).drop (i + 1)).all hexc = r
    unfold hexc
    by_cases h1 : c < 48
    · rw [if_pos h1, if_pos (by omega)]
      simp [show ¬ 48 ≤ c by omega, show ¬ 97 ≤ c by omega]
    · rw [if_neg h1]
      by_cases h2 : c > 57
      · rw [if_pos h2]
        by_cases h3 : c < 97
        · rw [if_pos h3]
          simp [show ¬ c ≤ 57 by omega, show ¬ 97 ≤ c by omega]
        · rw [if_neg h3]
          by_cases h4 : c > 102
          · rw [if_pos h4]
            simp [show ¬ c ≤ 57 by omega, show ¬ c ≤ 102 by omega]
          · rw [if_neg h4]
            simp [show 97 ≤ c by omega, show c ≤ 102 by omega]
      · rw [if_neg h2]
        simp [show 48 ≤ c by omega, show c ≤ 57 by omega]

theorem named_calls (s : ByteArray) (w : World) (hs : s.size ≤ 4611686018427387904) :
    Calls Try.prog 22 #[.string s] w fun e w' => e = .returned (.bool (namedL (bytesOf s))) ∧ Below w.heap.size w w' := by
  have h := named_l0 s hs s.size (s.size + 1) 0 (by omega) (by omega) (by omega)
  rw [List.drop_zero] at h
  refine (Dl.digest_Named.calls (s.size + 1) s _ w h).mono fun e w' ⟨he, n, hn⟩ => ⟨?_, ?_⟩
  · rw [he, namedL, bytesOf_length, Bool.and_comm]
  · rw [hn]; exact pw_drewN (Below.refl _ _) n

theorem size_u8 (w : World) : (sizeOf 5).run Try.prog w = .ok 1 w := by kernel_rfl
theorem run_equalIn_32 (w : World) (d : Nat) (xs ys : List Int) (hx : xs.length = 32) (hy : ys.length = 32) :
    (Op.equalIn (d + 2) 45 (.agg (xs.map (Value.int .u8)).toArray) (.agg (ys.map (Value.int .u8)).toArray)).run Try.prog w = .ok (xs == ys) w := by
  have hall : (List.range xs.length).all (fun i => xs.getD i 0 == ys.getD i 0) = (xs == ys) := by
    rw [Bool.eq_iff_iff]
    simp only [List.all_eq_true, List.mem_range, beq_iff_eq]
    constructor
    · intro h
      refine List.ext_getElem (by omega) fun i h1 h2 => ?_
      have := h i h1
      simpa [h1, h2] using this
    · intro h i _; rw [h]
  rw [← hall, hx, List.range_eq_range', Op.equalIn]
  simp only [Sem.run_bind, run_underlying Try.underlying45, Result.andThen_ok, size_u8, Std.Legacy.Range.forIn_eq_forIn_range', Std.Legacy.Range.size, Nat.sub_zero, Nat.add_sub_cancel, Nat.div_one]
  have hl : ∀ i ∈ List.range' 0 32 1, i < 32 := fun i hi => by simpa using (List.mem_range'_1.1 hi).2
  generalize List.range' 0 32 1 = l at hl ⊢
  induction l with
  | nil => simp
  | cons i l ih =>
    have hi : i < 32 := hl i (by simp)
    have px : (part 5 (xs.map (Value.int .u8)).toArray (i * 1)).run Try.prog w = .ok (.int .u8 (xs.getD i 0)) w := by
      simp [part, isAgg, run_underlying Try.underlying5, List.getD, List.getElem?_eq_getElem (show i < xs.length by omega)]
    have py : (part 5 (ys.map (Value.int .u8)).toArray (i * 1)).run Try.prog w = .ok (.int .u8 (ys.getD i 0)) w := by
      simp [part, isAgg, run_underlying Try.underlying5, List.getD, List.getElem?_eq_getElem (show i < ys.length by omega)]
    have pe : (Op.equalIn (d + 1) 5 (.int .u8 (xs.getD i 0)) (.int .u8 (ys.getD i 0))).run Try.prog w = .ok (xs.getD i 0 == ys.getD i 0) w := by
      rw [run_equalIn_int w d 5 .u8 .u8 _ _ Try.underlying5]
    simp only [List.forIn_cons, Sem.run_bind, px, py, pe, Result.andThen_ok, List.all_cons]
    cases hb : (xs.getD i 0 == ys.getD i 0)
    · simp
    · simp only [Bool.not_true, Bool.false_eq_true, if_false, Sem.run_pure, Result.andThen_ok, Bool.true_and]
      exact ih fun j hj => hl j (by simp [hj])
theorem eql_32 (xs ys : List Int) (hx : xs.length = 32) (hy : ys.length = 32) (w : World) :
    (binOp .eql 45 (.agg (xs.map (Value.int .u8)).toArray) (.agg (ys.map (Value.int .u8)).toArray)).run Try.prog w = .ok (.bool (xs == ys)) w := by
  rw [run_eql_struct, run_equalIn_32 w 9998 xs ys hx hy]
  rfl

theorem bytesOf_str (xs : List Int) (h : ∀ x ∈ xs, 0 ≤ x ∧ x < 256) : bytesOf (strOfNums xs) = xs := by
  simp only [bytesOf, strOfNums, List.map_map]
  refine List.ext_getElem (by simp) fun i h1 h2 => ?_
  have := h xs[i] (List.getElem_mem h2)
  simp
  omega
end Go.Proofs.Ytonhmjodgomeiaa.Dg
