/- Make's flush: the bytes that were put off, 127 at a time. No condition but the reach of what comes in. -/
import Derived.Test.YticagpejankjcaaDelRead
namespace Go.Proofs.Yticagpejankjcaa.Db
set_option linter.unusedVariables false
set_option linter.unusedSimpArgs false
open Go.RowKit Go.Proofs.YticagpejankjcaaW.PrintWords Go.Proofs.YticagpejankjcaaW.PrintLast Go.Proofs.YticagpejankjcaaW.PrintMore

/-- Bytes as cells. -/
abbrev cs (l : List Int) : List Value := l.map (Value.int .u8)
/-- Bytes as they are put in. -/
def ins (l : List Int) : List Int :=
  if h : l = [] then [] else ((min l.length 127 : Nat) : Int) :: (l.take (min l.length 127) ++ ins (l.drop (min l.length 127)))
termination_by l.length
decreasing_by
  have : 0 < l.length := List.length_pos_iff.2 h
  rw [List.length_drop]; omega
theorem ins_nil : ins [] = [] := by rw [ins, dif_pos rfl]
theorem ins_len (l : List Int) : (ins l).length ≤ 2 * l.length := by
  induction hn : l.length using Nat.strongRecOn generalizing l with
  | _ n ih =>
    rw [ins]
    by_cases h : l = []
    · rw [dif_pos h]; simp
    · rw [dif_neg h]
      have hp : 0 < l.length := List.length_pos_iff.2 h
      have := ih (l.drop (min l.length 127)).length (by rw [List.length_drop]; omega) (l.drop (min l.length 127)) rfl
      rw [List.length_cons, List.length_append, List.length_take]
      rw [List.length_drop] at this
      omega
theorem ins_8 (l : List Int) (h8 : ∀ x ∈ l, 0 ≤ x ∧ x < 256) : ∀ x ∈ ins l, 0 ≤ x ∧ x < 256 := by
  induction hn : l.length using Nat.strongRecOn generalizing l with
  | _ n ih =>
    rw [ins]
    by_cases h : l = []
    · rw [dif_pos h]; simp
    · rw [dif_neg h]
      have hp : 0 < l.length := List.length_pos_iff.2 h
      intro x hx
      rcases List.mem_cons.1 hx with hx | hx
      · omega
      · rcases List.mem_append.1 hx with hx | hx
        · exact h8 x (List.mem_of_mem_take hx)
        · exact ih (l.drop (min l.length 127)).length (by rw [List.length_drop]; omega) (l.drop (min l.length 127)) (fun y hy => h8 y (List.mem_of_mem_drop hy)) rfl x hx
theorem strCells_cs (s : ByteArray) : Lib.strCells s = cs (bytesOf s) := by simp [Lib.strCells, bytesOf, cs]
theorem old_at {w : World} {k : Nat} {o : Obj} (h : w.heap[k]? = some o) : k < w.heap.size := (Array.getElem?_eq_some_iff.1 h).1
theorem bytesOf_ext (a : ByteArray) (i j : Nat) : bytesOf (a.extract i j) = ((bytesOf a).drop i).take (j - i) := by
  simp [bytesOf, ByteArray.data_extract, List.map_take, List.map_drop]
theorem set_1c {w : World} {b : Nat} {x v : Value} {T : TypeId} {fr : Nat × Nat} (h : w.heap[b]? = some (.cells #[x] T fr)) : (w.setCell ⟨b, 0, none⟩ v).heap[b]? = some (.cells #[v] T fr) := by
  simp [World.setCell, Array.getElem?_modify, h]
theorem keepB0 {T e : TypeId} {b : Nat} {bs : List Value} {W W' : World} (h : Lib.IsBuilderF T e b b bs W) (hk : ∀ k c T' z, b ≤ k → (T' = T ∨ T' = e) → W.heap[k]? = some (.cells c T' z) → W'.heap[k]? = some (.cells c T' z)) : Lib.IsBuilderF T e b b bs W' := by
  have key : ∀ p, Lib.BuilderAtF T e b b p bs W → Lib.BuilderAtF T e b b p bs W' := by
    rintro p ⟨hB, v, hb, ⟨hl, ho⟩, hne⟩
    refine ⟨hB, v, hk b _ _ _ (Nat.le_refl _) (.inl rfl) hb, ⟨hl, ?_⟩, hne⟩
    rcases ho with ho | ⟨g, cap, cur, fz, hv, hbg, hh, rest⟩
    · exact .inl ho
    · exact .inr ⟨g, cap, cur, fz, hv, hbg, hk g _ _ _ hbg (.inr rfl) hh, rest⟩
  exact h.elim (fun h => .inl (key _ h)) (fun h => .inr (key _ h))
theorem bul {T e : TypeId} {b : Nat} {bs : List Value} {W : World} (h : Lib.IsBuilderF T e b b bs W) : b < W.heap.size := h.elim (fun h => h.lt) (fun h => h.lt)
/-- Make's memory: the builder, how far the text is put, the text. -/
structure Mk (b ob tx : Nat) (text : ByteArray) (w0 : World) (acc : List Int) (off : Nat) (w : World) : Prop where
  bu : Lib.IsBuilderF 42 5 b b (cs acc) w
  ob_ : w.heap[ob]? = some (.cells #[.int .i64 off] 3 (0, 0))
  tx_ : w.heap[tx]? = some (.cells #[.string text] 9 (0, 0))
  lt : tx < b ∧ b < ob
  below : Below b w0 w
/-- Behind a writer. -/
theorem Mk.wrote {b ob tx : Nat} {text : ByteArray} {w0 w w' : World} {acc acc' : List Int} {off : Nat} (h : Mk b ob tx text w0 acc off w) (k1 : Lib.BuilderAtF 42 5 b b (.pointer (some ⟨b, 0, none⟩)) (cs acc') w') (k2 : Below b w w') (k3 : Lib.OthersKept 5 (some b) w w') : Mk b ob tx text w0 acc' off w' :=
  ⟨.inr k1, k3 ob _ h.ob_ (fun e => by cases e; exact absurd h.lt.2 (Nat.lt_irrefl _)) (fun c fz e => by cases e), (k2.block tx h.lt.1).trans h.tx_, h.lt, h.below.trans k2⟩
theorem Mk.alloc {b ob tx : Nat} {text : ByteArray} {w0 w : World} {acc : List Int} {off : Nat} (h : Mk b ob tx text w0 acc off w) {w' : World} (hb : Below w.heap.size w w') : Mk b ob tx text w0 acc off w' :=
  ⟨keepB0 h.bu (fun k c T' z _ _ hk => (hb.block k (old_at hk)).trans hk), (hb.block ob (old_at h.ob_)).trans h.ob_, (hb.block tx (old_at h.tx_)).trans h.tx_, h.lt, h.below.trans (hb.mono (Nat.le_of_lt (bul h.bu)))⟩
theorem Mk.set {b ob tx : Nat} {text : ByteArray} {w0 w : World} {acc : List Int} {off : Nat} (h : Mk b ob tx text w0 acc off w) (off' : Nat) : Mk b ob tx text w0 acc off' (w.setCell ⟨ob, 0, none⟩ (.int .i64 off')) := by
  have hn : ∀ (k : Nat) (c : Array Value) (T : TypeId) (z : Nat × Nat), w.heap[k]? = some (Obj.cells c T z) → T ≠ 3 → (w.setCell ⟨ob, 0, none⟩ (.int .i64 off')).heap[k]? = some (Obj.cells c T z) := fun k c T z hk hT =>
    (Below.heap_setCell _ _ _ _ (fun e => by
      have e2 : k = ob := e
      subst e2
      rw [h.ob_] at hk
      cases hk
      exact hT rfl)).trans hk
  exact ⟨keepB0 h.bu (fun k c T' z _ ht hk => hn k c T' z hk (by rcases ht with rfl | rfl <;> decide)), set_1c h.ob_, hn _ _ _ _ h.tx_ (by decide), h.lt, h.below.setCell (p := ⟨ob, 0, none⟩) (Nat.le_of_lt h.lt.2) _⟩
def rint (w : World) (ob : Nat) : Nat := match w.cell? ⟨ob, 0, none⟩ with | some (.int _ n) => n.toNat | _ => 0
theorem Mk.rint {b ob tx : Nat} {text : ByteArray} {w0 w : World} {acc : List Int} {off : Nat} (h : Mk b ob tx text w0 acc off w) : rint w ob = off := by
  rw [Db.rint, Lib.cell_of_heap h.ob_]; rfl
/-- What is left of a text between two places. -/
def part (text : ByteArray) (i j : Nat) : List Int := ((bytesOf text).drop i).take (j - i)
theorem ins_part (text : ByteArray) (i j n : Nat) (hi : i < j) (hj : j ≤ text.size) (hn : n = min (j - i) 127) : ins (part text i j) = (n : Int) :: (part text i (i + n) ++ ins (part text (i + n) j)) := by
  have hl : (part text i j).length = j - i := by rw [part, List.length_take, List.length_drop, bytesOf_length]; omega
  rw [ins, dif_neg (by intro h; rw [h] at hl; simp at hl; omega), hl, ← hn]
  have e1 : (part text i j).take n = part text i (i + n) := by
    rw [part, part, List.take_take]; congr 1; omega
  have e2 : (part text i j).drop n = part text (i + n) j := by
    rw [part, part, List.drop_take, List.drop_drop]; congr 1; omega
  rw [e1, e2]

set_option maxHeartbeats 8000000 in
set_option maxRecDepth 100000 in
theorem flush_calls (b ob tx : Nat) (text : ByteArray) (w0 : World) (acc : List Int) (off end_ : Nat) (w : World) (hm : Mk b ob tx text w0 acc off w) (ho : off ≤ end_) (he : end_ ≤ text.size) (hts : text.size ≤ 1099511627776) (ha : acc.length ≤ 1099511627776) :
    Calls Try.prog 24 #[.int .i64 end_, .pointer (some ⟨ob, 0, none⟩), .pointer (some ⟨b, 0, none⟩), .pointer (some ⟨tx, 0, none⟩)] w fun e w' => e = .returned (.tuple #[]) ∧ Mk b ob tx text w0 (acc ++ ins (part text off end_)) end_ w' := by
  obtain ⟨T, hT⟩ : ∃ T, acc ++ ins (part text off end_) = T := ⟨_, rfl⟩
  rw [hT]
  have HT := As.mk hT
  have HM := As.mk hm
  clear hT hm
  go_enter Try.func24, Try.ntmps24
  go_wp2_with (fail)
  go_loopw [5] (fun _ wr => ∃ (a : List Int) (o : Nat), o ≤ end_ ∧ a.length + 2 * (end_ - o) ≤ 4398046511104 ∧ As (a ++ ins (part text o end_) = T) ∧ As (Mk b ob tx text w0 a o wr)) (fun _ wr => end_ - rint wr ob)
  case atStart => exact ⟨acc, off, ho, by omega, HT, HM⟩
  case round =>
    obtain ⟨a, o, hoe, hal, HTa, HMa⟩ := hrel
    have ho0 : wr.cell? ⟨ob, 0, none⟩ = some (.int .i64 o) := by rw [Lib.cell_of_heap HMa.out.ob_]; rfl
    have htx0 : wr.cell? ⟨tx, 0, none⟩ = some (.string text) := by rw [Lib.cell_of_heap HMa.out.tx_]; rfl
    by_cases hlt : o < end_
    · obtain ⟨n, hn⟩ : ∃ n, n = min (end_ - o) 127 := ⟨_, rfl⟩
      have hn0 : 0 < n := by omega
      have hn1 : n ≤ 127 := by omega
      have hn2 : o + n ≤ end_ := by omega
      have hmeas := HMa.out.rint
      have hb1 := HMa.out.bu
      have hbw : b ≤ wr.heap.size := Nat.le_of_lt (bul HMa.out.bu)
      have hal1 : (cs a).length + 1 ≤ 140737488355328 := by simp; omega
      obtain ⟨s, hs⟩ : ∃ s, text.extract o (o + n) = s := ⟨_, rfl⟩
      have hsb : bytesOf s = part text o (o + n) := by rw [← hs, bytesOf_ext, part]
      have hsn : s.size = n := by rw [← hs]; simp; omega
      have hnext : (a ++ ((n : Int) :: part text o (o + n))) ++ ins (part text (o + n) end_) = T := by
        rw [← HTa.out, ins_part text o end_ n hlt he hn]; simp
      have HNX := As.mk hnext
      have HSB := As.mk hsb
      have HS := As.mk hs
      have HN := As.mk hn
      clear hnext hsb hs hn
      go_wp2_with (fail)
      all_goals first
        | (have hq : (end_ : Int) - o = n := by have := HN.out; omega
           rw [hq])
        | (have hq : (127 : Int) = n := by have := HN.out; omega
           rw [hq])
      all_goals
        refine (writeByte_k b b (cs a) _ _ hb1 hal1 hbw).mono ?_
        rintro e w1 ⟨rfl, k1, k2, k3⟩
        have hm1 : Mk b ob tx text w0 (a ++ [(n : Int)]) o w1 := HMa.out.wrote (by simpa [cs] using k1) k2 k3
        have ho1 : w1.cell? ⟨ob, 0, none⟩ = some (.int .i64 o) := by rw [Lib.cell_of_heap hm1.ob_]; rfl
        have htx1 : w1.cell? ⟨tx, 0, none⟩ = some (.string text) := by rw [Lib.cell_of_heap hm1.tx_]; rfl
        have HM1 := As.mk hm1
        have hb2 := hm1.bu
        have hbw2 : b ≤ w1.heap.size := Nat.le_of_lt (bul hm1.bu)
        have hal2 : (cs (a ++ [(n : Int)])).length + s.size ≤ 140737488355328 := by simp; omega
        clear hm1 k1 k2 k3 ho0 htx0 hb1 hbw hal1
        have hx1 : (o : Int) ≤ o + n := by omega
        have hx2 : (o : Int) + n ≤ text.size := by omega
        go_wp2_with (fail)
        rw [HS.out]
        refine (writeString_k b b (cs (a ++ [(n : Int)])) s _ hb2 hal2 hbw2).mono ?_
        rintro e w2 ⟨rfl, k1, k2, k3⟩
        have hm2 : Mk b ob tx text w0 (a ++ ((n : Int) :: part text o (o + n))) o w2 := HM1.out.wrote (by
          have := k1
          rw [strCells_cs, HSB.out] at this
          simpa [cs] using this) k2 k3
        have ho2 : w2.cell? ⟨ob, 0, none⟩ = some (.int .i64 o) := by rw [Lib.cell_of_heap hm2.ob_]; rfl
        have hf2 : w2.frozen? ⟨ob, 0, none⟩ = false := Lib.frozen_of_heap hm2.ob_ 0
        have hm3 := hm2.set (o + n)
        have HM3 := As.mk hm3
        have hlen3 : (a ++ ((n : Int) :: part text o (o + n))).length + 2 * (end_ - (o + n)) ≤ 4398046511104 := by
          have : (part text o (o + n)).length ≤ n := by rw [part, List.length_take]; omega
          simp; omega
        clear hm2 hm3 k1 k2 k3 hb2 hal2 hbw2 ho1 htx1
        go_wp2_with (fail)
        have hcast : ((o + n : Nat) : Int) = (o : Int) + n := by omega
        rw [hcast] at HM3
        refine ⟨⟨a ++ ((n : Int) :: part text o (o + n)), o + n, hn2, hlen3, HNX, by first | exact HM3 | (rw [hcast]; exact HM3) | skip⟩, ?_⟩
        have hr3 := HM3.out.rint
        rw [hr3, hmeas]
        omega
    · have hoe2 : o = end_ := by omega
      subst hoe2
      go_wp2_with (fail)
      go_end0
      refine ⟨rfl, ?_⟩
      have := HTa.out
      rw [part, Nat.sub_self, List.take_zero, ins_nil, List.append_nil] at this
      rw [← this]
      exact HMa.out
end Go.Proofs.Yticagpejankjcaa.Db
