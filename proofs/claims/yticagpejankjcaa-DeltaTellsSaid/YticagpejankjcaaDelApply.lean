/- Apply: what it makes of any base and any delta. No condition but the reach of what comes in. -/
import Derived.Test.YticagpejankjcaaDelIter
import Derived.Test.YticagpejankjcaaRegW
import Derived.Lib.ConvBytes
import Derived.Test.YticagpejankjcaaShelf
import Derived.Shelf.Abstract
import Derived.Shelf.RegionOpen
namespace Go.Proofs.Yticagpejankjcaa.Db
set_option linter.unusedVariables false
set_option linter.unusedSimpArgs false
open Go.RowKit Go.Proofs.YticagpejankjcaaW.PrintWords Go.Proofs.YticagpejankjcaaW.PrintLast Go.Proofs.YticagpejankjcaaW.PrintMore Go.Proofs.Yticagpejankjcaa.Rg

attribute [local go_sem] Oper.semAt_some

def ErOk (r : Option (Int × Nat)) (er0 er1 : Value) : Prop := (r.isSome = true → er1 = er0) ∧ (r = none → ∃ a, er1 = .iface 46 (.pointer a))
theorem NumLeft.ex2 {w' : World} {rb g : Nat} {l : List Int} {er : Value} {r : Option (Int × Nat)} (h : NumLeft w' rb g l er r) : ∃ er1, Rdr w' rb g (leftL l r) er1 ∧ ErOk r er er1 := by
  rcases r with _ | ⟨n, k⟩
  · obtain ⟨a, h⟩ := h
    exact ⟨_, h, fun h => (by cases h), fun _ => ⟨a, rfl⟩⟩
  · exact ⟨er, h, fun _ => rfl, fun h => by cases h⟩
theorem both_er {L : List Int} {r1 r2 : Option (Int × Nat)} {er1 er2 : Value} (h1 : getR L 0 0 = r1) (h2 : getR (leftL L r1) 0 0 = r2) (k1 : ErOk r1 .nilIface er1) (k2 : ErOk r2 er1 er2) :
    if r1.isSome && r2.isSome then er2 = .nilIface else ∃ a, er2 = .iface 46 (.pointer a) := by
  rcases r1 with _ | ⟨n, k⟩
  · rw [leftL, h1] at h2
    subst h2
    rw [if_neg (by simp)]
    exact k2.2 rfl
  · rcases r2 with _ | ⟨m, j⟩
    · rw [if_neg (by simp)]; exact k2.2 rfl
    · rw [if_pos (by simp), k2.1 rfl, k1.1 rfl]
/-- The reader, its buffer, and the variable that holds it. -/
structure St0 (w : World) (g rb rv : Nat) (gs : Array Value) (fz : Nat × Nat) (l : List Int) (er : Value) (wx : World) : Prop where
  rdr : Rdr wx rb g l er
  gsr : wx.heap[g]? = some (.cells gs 5 fz)
  rvr : wx.heap[rv]? = some (.cells #[.pointer (some ⟨rb, 0, none⟩)] 34 (0, 0))
  below : Below w.heap.size w wx
  ge : w.heap.size ≤ rb
theorem St0.cellv {w : World} {g rb rv : Nat} {gs : Array Value} {fz : Nat × Nat} {l : List Int} {er : Value} {wx : World} (h : St0 w g rb rv gs fz l er wx) : wx.cell? ⟨rv, 0, none⟩ = some (.pointer (some ⟨rb, 0, none⟩)) := by rw [Lib.cell_of_heap h.rvr]; rfl
theorem St0.size {w : World} {g rb rv : Nat} {gs : Array Value} {fz : Nat × Nat} {l : List Int} {er : Value} {wx : World} (h : St0 w g rb rv gs fz l er wx) : w.heap.size ≤ wx.heap.size := h.below.size
theorem old_lt {w : World} {k : Nat} {o : Obj} (h : w.heap[k]? = some o) : k < w.heap.size := (Array.getElem?_eq_some_iff.1 h).1
theorem Rdr.shape {w : World} {rb g : Nat} {l : List Int} {er : Value} (h : Rdr w rb g l er) : ∃ x, w.heap[rb]? = some (.cells #[x, er] 38 (0, 0)) := by
  obtain ⟨o, c, hr, _⟩ := h.at_
  exact ⟨_, hr⟩
theorem St0.keep {w : World} {g rb rv : Nat} {gs : Array Value} {fz : Nat × Nat} {l : List Int} {er : Value} {wx wy : World} (h : St0 w g rb rv gs fz l er wx) (hg : wx.grownBy wy (some rb)) {k : Nat} {cs : Array Value} (hk : wx.heap[k]? = some (.cells cs 3 (0, 0))) : wy.heap[k]? = some (.cells cs 3 (0, 0)) := by
  refine (hg.block k (old_lt hk) (fun e => ?_)).trans hk
  cases e
  obtain ⟨x, hx⟩ := h.rdr.shape
  rw [hx] at hk
  cases hk
theorem St0.num {w : World} {g rb rv : Nat} {gs : Array Value} {fz : Nat × Nat} {l l' : List Int} {er er' : Value} {wx wy : World} (h : St0 w g rb rv gs fz l er wx) (hg : wx.grownBy wy (some rb)) (hr : Rdr wy rb g l' er') : St0 w g rb rv gs fz l' er' wy := by
  refine ⟨hr, ?_, ?_, h.below.grown hg h.size (fun k e => by cases e; exact h.ge), h.ge⟩
  · exact (hg.block g (old_lt h.gsr) (fun e => h.rdr.ne (by cases e; rfl))).trans h.gsr
  · refine (hg.block rv (old_lt h.rvr) (fun e => ?_)).trans h.rvr
    cases e
    obtain ⟨x, hx⟩ := h.rdr.shape
    have := h.rvr
    rw [hx] at this
    cases this
theorem St0.alloc {w : World} {g rb rv : Nat} {gs : Array Value} {fz : Nat × Nat} {l : List Int} {er : Value} {wx : World} (h : St0 w g rb rv gs fz l er wx) (o : Obj) : St0 w g rb rv gs fz l er (wx.alloc o) := by
  have hb := (Below.refl wx.heap.size wx).alloc (Nat.le_refl _) o
  exact ⟨h.rdr.below hb, (hb.block g (old_lt h.gsr)).trans h.gsr, (hb.block rv (old_lt h.rvr)).trans h.rvr, h.below.alloc h.size o, h.ge⟩
theorem St0.drew {w : World} {g rb rv : Nat} {gs : Array Value} {fz : Nat × Nat} {l : List Int} {er : Value} {wx : World} (h : St0 w g rb rv gs fz l er wx) : St0 w g rb rv gs fz l er wx.drew := ⟨h.rdr.drew, h.gsr, h.rvr, h.below.drew, h.ge⟩
/-- A store into an int's box. -/
theorem St0.set {w : World} {g rb rv : Nat} {gs : Array Value} {fz : Nat × Nat} {l : List Int} {er : Value} {wx : World} (h : St0 w g rb rv gs fz l er wx) {tb : Nat} {cs : Array Value} (htb : wx.heap[tb]? = some (.cells cs 3 (0, 0))) (v : Value) (hle : w.heap.size ≤ tb := by assumption) : St0 w g rb rv gs fz l er (wx.setCell ⟨tb, 0, none⟩ v) := by
  have hn : ∀ k o, wx.heap[k]? = some o → (∀ c, o ≠ Obj.cells c 3 (0, 0)) → (wx.setCell ⟨tb, 0, none⟩ v).heap[k]? = wx.heap[k]? := fun k o hk ho => Below.heap_setCell _ _ _ _ (fun e => by
    have e2 : k = tb := e
    subst e2
    rw [htb] at hk
    exact ho cs (Option.some.inj hk).symm)
  obtain ⟨x, hx⟩ := h.rdr.shape
  have e1 := hn rb _ hx (fun c hc => by cases hc)
  have e2 := hn g _ h.gsr (fun c hc => by cases hc)
  have e3 := hn rv _ h.rvr (fun c hc => by cases hc)
  exact ⟨h.rdr.kept e1 (fun _ => e2), e2.trans h.gsr, e3.trans h.rvr, h.below.setCell (p := ⟨tb, 0, none⟩) hle v, h.ge⟩
theorem tb_new (wx : World) : (wx.alloc (.cells #[.int .i64 0] 3)).heap[wx.heap.size]? = some (.cells #[.int .i64 0] 3 (0, 0)) := World.alloc_heap_new wx _
/-- Where nothing panics. -/
def NoP (Q : Exit → Act → World → Prop) : Exit → Act → World → Prop
  | .panic _, _, _ => False
  | e, a, w => Q e a w
theorem wp_noP {P : Program} {c : Code} {Q : Exit → Act → World → Prop} {a : Act} {w : World} (h : c.wp P (NoP Q) a w) : c.wp P Q a w :=
  wp_mono h (fun e a w h => by cases e <;> first | exact h | exact h.elim)
theorem set_c {w : World} {b : Nat} {x v : Value} {T : TypeId} {fr : Nat × Nat} (h : w.heap[b]? = some (.cells #[x] T fr)) : (w.setCell ⟨b, 0, none⟩ v).heap[b]? = some (.cells #[v] T fr) := by
  simp [World.setCell, Array.getElem?_modify, h]

theorem le_grown (w : World) (n : Nat) : n ≤ grownCap w n 0 5 := grownCap_ge w n 0 _
theorem st_start (base d : ByteArray) (w : World) (hds : d.size ≤ 1099511627776) :
    ∃ gs fz, St0 w w.heap.size (w.heap.size + 1) (w.heap.size + 1 + 1) gs fz (bytesOf d) .nilIface
      (((Lib.bytesWorld w 5 d).alloc (.cells #[.slice (some ⟨w.heap.size, 0, none⟩) d.size (grownCap w d.size 0 5), .nilIface] 38)).alloc (.cells #[.pointer (some ⟨w.heap.size + 1, 0, none⟩)] 34)) := by
  obtain ⟨wa, hwa⟩ : ∃ wa, Lib.bytesWorld w 5 d = wa := ⟨_, rfl⟩
  have hsz : wa.heap.size = w.heap.size + 1 := by rw [← hwa]; exact Lib.bytesWorld_size w _ d
  have hg := Lib.bytesWorld_at_new w 5 d
  have hbl : Below w.heap.size w wa := by
    rw [← hwa]
    exact ⟨rfl, rfl, rfl, by rw [Lib.bytesWorld_size]; omega, fun i hi => Lib.bytesWorld_at_old w _ d i hi⟩
  have hcell : ∀ j x, (bytesOf d)[j]? = some x → wa.cell? ⟨w.heap.size, j, none⟩ = some (.int .u8 x) := fun j x hx => by
    have hj : j < d.size := by
      have := (List.getElem?_eq_some_iff.1 hx).1
      rwa [bytesOf_length] at this
    rw [← hwa, Lib.bytesWorld_cell w 5 d j hj]
    simp only [bytesOf, List.getElem?_map, Option.map_eq_some_iff] at hx
    obtain ⟨u, hu, rfl⟩ := hx
    rw [List.getD_eq_getElem?_getD, hu]
    rfl
  rw [hwa] at hg ⊢
  refine ⟨Lib.bytesCells w 5 d, ((Lib.bytesCells w 5 d).size, (Lib.bytesCells w 5 d).size + 1), ⟨⟨0, grownCap w d.size 0 5, ?_, ?_, ?_⟩, by omega⟩, ?_, ?_, ?_, by omega⟩
  · rw [Lib.alloc_old _ _ _ (by first | omega | (simp; omega)), ← hsz, bytesOf_length]
    exact World.alloc_heap_new wa _
  · rw [bytesOf_length]; exact Nat.le_trans (Nat.le_refl _) (le_grown w d.size)
  · intro j x hx
    have h := hcell j x hx
    unfold World.cell? at h ⊢
    rw [Nat.zero_add]
    rw [Lib.alloc_old _ _ _ (by first | omega | (simp; omega)), Lib.alloc_old _ _ _ (by first | omega | (simp; omega))]
    exact h
  · rw [Lib.alloc_old _ _ _ (by first | omega | (simp; omega)), Lib.alloc_old _ _ _ (by first | omega | (simp; omega))]
    exact hg
  · have := World.alloc_heap_new (wa.alloc (.cells #[.slice (some ⟨w.heap.size, 0, none⟩) d.size (grownCap w d.size 0 5), .nilIface] 38)) (.cells #[.pointer (some ⟨w.heap.size + 1, 0, none⟩)] 34)
    rw [World.size_alloc, hsz] at this
    exact this
  · exact (hbl.alloc hbl.size _).alloc (by first | omega | (simp; omega)) _

/-- All pieces' bytes. -/
def cat (xs : List Piece) : List UInt8 := xs.flatMap (·.1.data.toList)
theorem keepB {T e : TypeId} {b : Nat} {bs : List Value} {W W' : World} (h : Lib.IsBuilderF T e b b bs W) (hk : ∀ k c T' z, b ≤ k → W.heap[k]? = some (.cells c T' z) → W'.heap[k]? = some (.cells c T' z)) : Lib.IsBuilderF T e b b bs W' := by
  have key : ∀ p, Lib.BuilderAtF T e b b p bs W → Lib.BuilderAtF T e b b p bs W' := by
    rintro p ⟨hB, v, hb, ⟨hl, ho⟩, hne⟩
    refine ⟨hB, v, hk b _ _ _ (Nat.le_refl _) hb, ⟨hl, ?_⟩, hne⟩
    rcases ho with ho | ⟨g, cap, cur, fz, hv, hbg, hh, rest⟩
    · exact .inl ho
    · exact .inr ⟨g, cap, cur, fz, hv, hbg, hk g _ _ _ hbg hh, rest⟩
  exact h.elim (fun h => .inl (key _ h)) (fun h => .inr (key _ h))
theorem bu_lt {T e : TypeId} {b : Nat} {bs : List Value} {W : World} (h : Lib.IsBuilderF T e b b bs W) : b < W.heap.size := h.elim (fun h => h.lt) (fun h => h.lt)
/-- Between two rounds. -/
structure In (w : World) (b tb rv rb : Nat) (mx : Int) (pre : List Piece) (W : World) : Prop where
  bu : Lib.IsBuilderF 42 5 b b (Lib.byteCells (cat pre)) W
  le : ((cat pre).length : Int) ≤ mx
  tb_ : W.heap[tb]? = some (.cells #[.int .i64 mx] 3 (0, 0))
  rv_ : W.heap[rv]? = some (.cells #[.pointer (some ⟨rb, 0, none⟩)] 34 (0, 0))
  sh : Shr rb W
  below : Below w.heap.size w W
theorem In.keep {w : World} {b tb rv rb : Nat} {mx : Int} {pre : List Piece} {W W' : World} (h : In w b tb rv rb mx pre W) (hr : rb < b ∧ tb ≠ rb ∧ rv ≠ rb) (hk : ∀ k c T' z, k ≠ rb → W.heap[k]? = some (.cells c T' z) → W'.heap[k]? = some (.cells c T' z)) (hs : Shr rb W') (hB : Below w.heap.size w W') : In w b tb rv rb mx pre W' :=
  ⟨keepB h.bu (fun k c T' z hbk => hk k c T' z (by omega)), h.le, hk _ _ _ _ hr.2.1 h.tb_, hk _ _ _ _ hr.2.2 h.rv_, hs, hB⟩
theorem grown_cells {W W' : World} {row : Option Nat} (hg : W.grownBy W' row) (hr : ∀ r, row = some r → ∃ o : Obj, W.heap[r]? = some o ∧ o.isCells = false) {k : Nat} {c : Array Value} {T : TypeId} {z : Nat × Nat} (hk : W.heap[k]? = some (.cells c T z)) : W'.heap[k]? = some (.cells c T z) := by
  refine (hg.block k (old_lt hk) (fun e => ?_)).trans hk
  obtain ⟨o, ho, hc⟩ := hr k e.symm
  rw [hk] at ho
  cases ho
  cases hc
theorem In.own {w wl : World} {b tb rv rb : Nat} {mx : Int} (hr : rb < b ∧ tb ≠ rb ∧ rv ≠ rb) (hle : w.heap.size ≤ wl.heap.size) : OwnFrom wl.heap.size (In w b tb rv rb mx) := fun pre W W' row h hg hrow =>
  h.keep hr (fun k c T' z _ hk => grown_cells hg (fun r e => (hrow r e).2) hk) (by obtain ⟨x, y, hx⟩ := h.sh; exact ⟨x, y, grown_cells hg (fun r e => (hrow r e).2) hx⟩) (h.below.grown hg h.below.size (fun k e => by have := (hrow k e).1; omega))
theorem In.rbs {w : World} {b tb rv rb : Nat} {mx : Int} (hr : rb < b ∧ tb ≠ rb ∧ rv ≠ rb) (hge : w.heap.size ≤ rb) : ∀ pre A B, In w b tb rv rb mx pre A → A.grownBy B (some rb) → Shr rb B → In w b tb rv rb mx pre B := fun pre A B h hg hsh =>
  h.keep hr (fun k c T' z hne hk => (hg.block k (old_lt hk) (fun e => hne (by cases e; rfl))).trans hk) hsh (h.below.grown hg h.below.size (fun k e => by cases e; exact hge))
/-- A round has left. -/
structure InX (w : World) (rv rb : Nat) (mx : Int) (c : Code) (pre : List Piece) (W : World) : Prop where
  more : mx < (cat pre).length
  exit_ : c = .exit 0
  er : ∃ x a, W.heap[rb]? = some (.cells #[x, .iface 46 (.pointer a)] 38 (0, 0))
  rv_ : W.heap[rv]? = some (.cells #[.pointer (some ⟨rb, 0, none⟩)] 34 (0, 0))
  below : Below w.heap.size w W
theorem InX.own {w wl : World} {rv rb : Nat} {mx : Int} (c : Code) (hle : w.heap.size ≤ wl.heap.size) : OwnFrom wl.heap.size (InX w rv rb mx c) := fun pre W W' row h hg hrow => by
  obtain ⟨x, a, he⟩ := h.er
  exact ⟨h.more, h.exit_, ⟨x, a, grown_cells hg (fun r e => (hrow r e).2) he⟩, grown_cells hg (fun r e => (hrow r e).2) h.rv_, h.below.grown hg h.below.size (fun k e => by have := (hrow k e).1; omega)⟩
theorem cell_block {w : World} {g j : Nat} {v : Value} (h : w.cell? ⟨g, j, none⟩ = some v) : ∃ c T z, w.heap[g]? = some (.cells c T z) := by
  unfold World.cell? at h
  cases hh : w.heap[g]? with
  | none => simp [hh] at h
  | some o => cases o <;> simp [hh] at h <;> exact ⟨_, _, _, rfl⟩
theorem IterS.own {R : List ByteArray × Bool} {rb g B : Nat} : OwnFrom B (IterS R rb g) := fun xs W W' row h hg hrow => by
  obtain ⟨h1, l, er, hr, he⟩ := h
  refine ⟨h1, l, er, ?_, he⟩
  obtain ⟨x, hx⟩ := hr.shape
  refine hr.kept ((grown_cells hg (fun r e => (hrow r e).2) hx).trans hx.symm) (fun hl => ?_)
  obtain ⟨o, c, _, _, hw⟩ := hr.at_
  obtain ⟨c1, T, z, hb⟩ := cell_block (hw 0 l[0] (List.getElem?_eq_getElem hl))
  exact (grown_cells hg (fun r e => (hrow r e).2) hb).trans hb.symm
theorem kpb_trans {b : Nat} {A B C : World} (h : Kpb b A B) (k : Kpb b B C) : Kpb b A C := fun i cs T z hi hb ht => k i _ _ _ (h i _ _ _ hi hb ht) hb ht
theorem kpb_put {b : Nat} (W : World) (l : Nat) (o o' : Obj) (hl : W.heap[l]? = some o) (ho : o.isCells = false) : Kpb b W (W.putObj l o') := fun i cs T z hi hb ht =>
  (World.putObj_heap_other (fun e => by subst e; rw [hl] at hi; cases hi; cases ho)).trans hi

theorem strCells_cat (pre : List Piece) (s : ByteArray) (hs : s.size ≤ 1099511627776) : Lib.byteCells (cat (pre ++ [⟨s, hs⟩])) = Lib.byteCells (cat pre) ++ Lib.strCells s := by
  simp [cat, Lib.byteCells, Lib.strCells]
/-- A round goes on. -/
theorem round_on {w wl W w2 : World} {b tb rv rb : Nat} {mx : Int} {pre : List Piece} {bs : List Value} {s : ByteArray} {l : Nat} (h : In w b tb rv rb mx pre W) (hbs : Lib.byteCells (cat pre) = bs) (hs : s.size ≤ 1099511627776) (hfit : (bs.length : Int) + s.size ≤ mx)
    (hl : wl.heap.size ≤ l) (hwl : wl.heap.size = b + 3) (hwb : w.heap.size ≤ b) (hr : rb < b ∧ tb ≠ rb ∧ rv ≠ rb)
    (k1 : Lib.BuilderAtF 42 5 b b (.pointer (some ⟨b, 0, none⟩)) (bs ++ Lib.strCells s) w2) (k2 : Below b W.drew w2) (k3 : Lib.OthersKept 5 (some b) W.drew w2) :
    KeepsFrom wl.heap.size W w2 ∧ Kpb b W w2 ∧ In w b tb rv rb mx (pre ++ [⟨s, hs⟩]) w2 := by
  have keep : ∀ k c T z, W.heap[k]? = some (.cells c T z) → k ≠ b → (T = 5 → k < b) → w2.heap[k]? = some (.cells c T z) := fun k c T z hk hne ht => by
    by_cases hT : T = 5
    · exact (k2.block k (ht hT)).trans hk
    · exact k3 k _ hk (fun e => hne (by cases e; rfl)) (fun c' fz' e => hT (by cases e; rfl))
  refine ⟨⟨k2.size, fun k o hB hk ho => k3 k o hk (fun e => by cases e; omega) (fun c' fz' e => by subst e; cases ho)⟩, keep, ?_⟩
  have hb0 : ∃ c, W.heap[b]? = some (.cells c 42 (0, 0)) := by
    rcases h.bu with ⟨_, v, hb, _⟩ | ⟨_, v, hb, _⟩
    · exact ⟨_, hb⟩
    · exact ⟨_, hb⟩
  obtain ⟨cb, hcb⟩ := hb0
  refine ⟨?_, ?_, keep _ _ _ _ h.tb_ (fun e => ?_) (fun e => by cases e), keep _ _ _ _ h.rv_ (fun e => ?_) (fun e => by cases e), ?_, h.below.drew.trans (k2.mono hwb)⟩
  · rw [strCells_cat, hbs]; exact .inr k1
  · have e1 := congrArg List.length (strCells_cat pre s hs)
    rw [hbs] at e1
    have e2 : (Lib.byteCells (cat (pre ++ [⟨s, hs⟩]))).length = (cat (pre ++ [⟨s, hs⟩])).length := by simp [Lib.byteCells]
    rw [List.length_append, Lib.strCells_length] at e1
    omega
  · have := h.tb_; rw [e, hcb] at this; cases this
  · have := h.rv_; rw [e, hcb] at this; cases this
  · obtain ⟨x, y, hx⟩ := h.sh
    exact ⟨x, y, keep _ _ _ _ hx (by omega) (fun e => by cases e)⟩
/-- A round leaves. -/
theorem round_off {w wl W : World} {b tb rv rb : Nat} {mx : Int} {pre : List Piece} (h : In w b tb rv rb mx pre W) (xs : List Piece) (hxs : mx < (cat xs).length) (s : ByteArray) {l : Nat} (hl : wl.heap.size ≤ l) (hwl : wl.heap.size = b + 3) (hwb : w.heap.size ≤ b) (hr : rb < b ∧ tb ≠ rb ∧ rv ≠ rb) (hge : w.heap.size ≤ rb) {a : Option Addr} :
    KeepsFrom wl.heap.size W (((W.alloc (.cells #[.string s] 48)).setCell ⟨rb, 1, none⟩ (.iface 46 (.pointer a))).drew) ∧ InX w rv rb mx (.exit 0) xs (((W.alloc (.cells #[.string s] 48)).setCell ⟨rb, 1, none⟩ (.iface 46 (.pointer a))).drew) := by
  obtain ⟨x, y, hx⟩ := h.sh
  have hg : W.grownBy ((W.alloc (.cells #[.string s] 48)).setCell ⟨rb, 1, none⟩ (.iface 46 (.pointer a))).drew (some rb) := grown_drew (grown_trans (World.grownBy_alloc _ _ _) (grown_set _ ⟨rb, 1, none⟩ _))
  refine ⟨⟨hg.size, fun k o hB hk ho => (hg.block k (old_lt hk) (fun e => by cases e; omega)).trans hk⟩, ⟨hxs, rfl, ⟨x, a, ?_⟩, (hg.block rv (old_lt h.rv_) (fun e => hr.2.2 (by cases e; rfl))).trans h.rv_, h.below.grown hg h.below.size (fun k e => by cases e; exact hge)⟩⟩
  exact set_1 ((Lib.alloc_old W _ rb (old_lt hx)).trans hx)
theorem steps_calls (rb : Nat) (base : ByteArray) (w : World) : Calls Try.prog 16 #[.pointer (some ⟨rb, 0, none⟩), .string base] w fun e w' =>
    e = .returned (.func (.func 31) #[] #[.pointer (some ⟨w.heap.size, 0, none⟩), .pointer (some ⟨w.heap.size + 1, 0, none⟩)]) ∧ w' = (w.alloc (.cells #[.pointer (some ⟨rb, 0, none⟩)] 34)).alloc (.cells #[.string base] 9) := by
  go_enter Try.func16, Try.ntmps16
  go_wp2
  go_ret
  exact ⟨rfl, rfl⟩

def sumL (ps : List ByteArray) : List UInt8 := ps.flatMap (·.data.toList)
theorem cat_sum (xs : List Piece) : cat xs = sumL (xs.map (·.1)) := by
  simp [cat, sumL, List.flatMap_map]
/-- What Apply makes of a base and a delta's bytes. -/
def applyR (base : ByteArray) (L : List Int) : Option (List UInt8) :=
  if (getR L 0 0).isSome = true ∧ (getR (leftL L (getR L 0 0)) 0 0).isSome = true ∧
      (runS base ((leftL (leftL L (getR L 0 0)) (getR (leftL L (getR L 0 0)) 0 0)).length + 1) (leftL (leftL L (getR L 0 0)) (getR (leftL L (getR L 0 0)) 0 0))).2 = true ∧ (tri (getR L 0 0)).1 = base.size ∧
      ((sumL (runS base ((leftL (leftL L (getR L 0 0)) (getR (leftL L (getR L 0 0)) 0 0)).length + 1) (leftL (leftL L (getR L 0 0)) (getR (leftL L (getR L 0 0)) 0 0))).1).length : Int) = (tri (getR (leftL L (getR L 0 0)) 0 0)).1
    then some (sumL (runS base ((leftL (leftL L (getR L 0 0)) (getR (leftL L (getR L 0 0)) 0 0)).length + 1) (leftL (leftL L (getR L 0 0)) (getR (leftL L (getR L 0 0)) 0 0))).1) else none
theorem applyR_of {base : ByteArray} {L L2 : List Int} {r1 r2 : Option (Int × Nat)} {R : List ByteArray × Bool} (h1 : getR L 0 0 = r1) (h2 : getR (leftL L r1) 0 0 = r2) (h3 : leftL (leftL L r1) r2 = L2)
    (hR : (if r1.isSome && r2.isSome then runS base (L2.length + 1) L2 else ([], false)) = R) :
    applyR base L = if R.2 = true ∧ (tri r1).1 = base.size ∧ ((sumL R.1).length : Int) = (tri r2).1 then some (sumL R.1) else none := by
  rw [applyR, h1, h2, h3]
  by_cases hs : (r1.isSome && r2.isSome) = true
  · rw [if_pos hs] at hR
    rw [hR]
    rw [Bool.and_eq_true] at hs
    by_cases hc : R.2 = true ∧ (tri r1).1 = base.size ∧ ((sumL R.1).length : Int) = (tri r2).1
    · rw [if_pos hc, if_pos ⟨hs.1, hs.2, hc⟩]
    · rw [if_neg hc, if_neg (fun h => hc h.2.2)]
  · rw [if_neg hs] at hR
    subst hR
    rw [if_neg (fun h => hs (by rw [Bool.and_eq_true]; exact ⟨h.1, h.2.1⟩)), if_neg (fun h => by cases h.1)]
theorem eqlBroken (a : Option Addr) (w : World) : (binOp .eql 36 (.iface 46 (.pointer a)) .nilIface).run Try.prog w = .ok (.bool false) w := by kernel_rfl
set_option maxHeartbeats 4000000 in
set_option maxRecDepth 100000 in
/-- Where the reader has an error nothing is handed on. -/
theorem iter_err (n : Nat) (b rb g rp bp : Nat) (L : List Int) (a : Option Addr) (w : World) (hr : Rdr w rb g L (.iface 46 (.pointer a))) (hrp : w.heap[rp]? = some (.cells #[.pointer (some ⟨rb, 0, none⟩)] 34 (0, 0))) :
    Iterates Fence.wide n Try.prog 31 #[.pointer (some ⟨rp, 0, none⟩), .pointer (some ⟨bp, 0, none⟩)] (fun x : Piece => #[.string x.1]) (Kpb b) rb (Shr rb) (IterS ([], false) rb g) (Heads ([], false)) w := by
  intro lp J Jx W hb hJ hY h0
  refine callsIn_wide.2 ?_
  have hrW := hr.below hb
  have hrpW : W.heap[rp]? = some (.cells #[.pointer (some ⟨rb, 0, none⟩)] 34 (0, 0)) := (hb.block rp (old_lt hrp)).trans hrp
  have hp0 : W.cell? ⟨rp, 0, none⟩ = some (.pointer (some ⟨rb, 0, none⟩)) := by rw [Lib.cell_of_heap hrpW]; rfl
  obtain ⟨o, c, hrb, _⟩ := hrW.at_
  have hr0 : W.cell? ⟨rb, 0, none⟩ = some (.slice (some ⟨g, o, none⟩) L.length c) := by rw [Lib.cell_of_heap hrb]; rfl
  have hr1 : W.cell? ⟨rb, 1, none⟩ = some (.iface 46 (.pointer a)) := by rw [Lib.cell_of_heap hrb]; rfl
  have hn : (binOp .eql 36 (.iface 46 (.pointer a)) .nilIface).run Try.prog W = .ok (.bool false) W := eqlBroken a W
  have H0 := As.mk h0
  have HR := As.mk hrW
  clear hb hJ hY h0 hr hrp hrb hrpW hrW
  go_enter Try.func31, Try.ntmps31
  go_wp2_with (fail)
  refine wp_loop_rounds 1 ?_
  rw [rounds_succ]
  by_cases hl : 0 < L.length
  · go_wp2_with (fail)
    go_end0
    exact ⟨⟨_, rfl⟩, .inl ⟨[], IterS.bad rfl HR.out, H0.out⟩⟩
  · have hl2 : L.length = 0 := by omega
    go_wp2_with (fail)
    go_end0
    exact ⟨⟨_, rfl⟩, .inl ⟨[], IterS.bad rfl HR.out, H0.out⟩⟩

set_option maxHeartbeats 8000000 in
set_option maxRecDepth 100000 in
theorem apply_calls (base d : ByteArray) (res : Option (List UInt8)) (w : World) (hbs : base.size ≤ 1099511627776) (hds : d.size ≤ 1099511627776) (hres : applyR base (bytesOf d) = res) :
    Calls Try.prog 10 #[.string base, .string d] w fun e w' => e = .returned (.tuple #[.string ⟨(res.getD []).toArray⟩, .int .i64 (if res.isSome then 0 else 3)]) ∧ Below w.heap.size w w' := by
  have HRes := As.mk hres
  clear hres
  refine callsIn_wide.1 (callsIn_of_wp_marks (F := Fence.wide) (n := 5) Try.func10 rfl trivial ?_ rfl)
  refine wpIn_wide.2 ?_
  simp only [Try.ntmps10, List.size_toArray, List.length_cons, List.length_nil, Nat.reduceAdd, Nat.reduceSub, Array.replicate_succ, Array.replicate_zero, List.push_toArray, List.append_toArray, List.nil_append, List.cons_append]
  have hcb := fun w => Lib.run_convert_string_bytes (P := Try.prog) w 9 29 5 d Try.underlying9 Try.underlying29 Try.underlying5
  go_wp2_with (fail)
  have hbz := Lib.bytesWorld_size w 5 d
  rw [hbz]
  obtain ⟨wi, hwi⟩ : ∃ wi, ((Lib.bytesWorld w 5 d).alloc (.cells #[.slice (some ⟨w.heap.size, 0, none⟩) d.size (grownCap w d.size 0 5), .nilIface] 38)).alloc (.cells #[.pointer (some ⟨w.heap.size + 1, 0, none⟩)] 34) = wi := ⟨_, rfl⟩
  rw [hwi]
  have hst0 := st_start base d w hds
  rw [hwi] at hst0
  clear hcb hbz
  have hwis : wi.heap.size = w.heap.size + 3 := by rw [← hwi]; simp [Lib.bytesWorld_size]
  clear hwi
  obtain ⟨gs, fz, hst00⟩ := hst0
  obtain ⟨L, hL0⟩ : ∃ L, bytesOf d = L := ⟨_, rfl⟩
  have hL2 : L.length ≤ 1099511627776 := by rw [← hL0, bytesOf_length]; exact hds
  have hL8 : ∀ x ∈ L, 0 ≤ x ∧ x < 256 := by rw [← hL0]; exact bytesOf_8 d
  rw [hL0] at hst00
  have H8 := As.mk hL8
  have HL0 := As.mk hL0
  clear hL8 hL0
  obtain ⟨g, hg⟩ : ∃ g, w.heap.size = g := ⟨_, rfl⟩
  obtain ⟨rb, hrb⟩ : ∃ rb, w.heap.size + 1 = rb := ⟨_, rfl⟩
  obtain ⟨rv, hrv⟩ : ∃ rv, rb + 1 = rv := ⟨_, rfl⟩
  have hsti : St0 w g rb rv gs fz L .nilIface wi := by
    rw [← hg, ← hrv, ← hrb]; exact hst00
  have hst := hsti.drew
  rw [hrb, hrv]
  clear hst00
  obtain ⟨r1, hg1⟩ : ∃ r1, getR L 0 0 = r1 := ⟨_, rfl⟩
  obtain ⟨r2, hg2⟩ : ∃ r2, getR (leftL L r1) 0 0 = r2 := ⟨_, rfl⟩
  have HG1 := As.mk hg1
  have HG2 := As.mk hg2
  clear hg1 hg2
  refine wp_noP ?_
  have HWis := As.mk hwis
  clear hwis
  refine start_ (n := 7) (S := fun w' => w'.cell? ⟨rv, 0, none⟩ = some (.pointer (some ⟨rb, 0, none⟩))) (ds := []) #[false, false, false, false, false, false, false] (by kernel_rfl) rfl rfl (hst.cellv) (fun hHeld => ?_)
  refine take_ (i := 0) (N := some 15) (v := ?_) (a' := ?_) #[true, false, false, false, false, false, false] rfl rfl (by kernel_rfl) (fun _ _ _ h => h) (Or.inl ⟨by rfl, ?_⟩) hHeld ?_ ?_
  rotate_left
  · intro w' s0
    go_simp
    with_reducible rfl
  rotate_left
  · simp only [Act.put, List.setIfInBounds_toArray, List.set_cons_zero, List.set_cons_succ, i64_w, i32_w]
    rfl
  refine take_ (i := 2) (N := some 17) (v := ?_) (a' := ?_) #[true, false, true, false, false, false, false] rfl rfl (by kernel_rfl) (fun _ _ _ h => h) (Or.inl ⟨by rfl, ?_⟩) hHeld ?_ ?_
  rotate_left
  · intro w' s0
    go_simp
    with_reducible rfl
  rotate_left
  · simp only [Act.put, List.setIfInBounds_toArray, List.set_cons_zero, List.set_cons_succ, i64_w, i32_w]
    rfl
  refine join_ (σ := Nat) 2 #[true, true, true, true, true, false, false] (fun tb => [(15, .pointer (some ⟨rb, 0, none⟩)), (17, .pointer (some ⟨rb, 0, none⟩)), (16, .int .i64 (tri r1).1), (18, .int .i64 (tri r2).1), (8, .pointer (some ⟨tb, 0, none⟩))]) (fun tb w' => ∃ er2, St0 w g rb rv gs fz (leftL (leftL L r1) r2) er2 w' ∧ (if r1.isSome && r2.isSome then er2 = .nilIface else ∃ a, er2 = .iface 46 (.pointer a)) ∧ w'.heap[tb]? = some (.cells #[.int .i64 0] 3 (0, 0)) ∧ w.heap.size ≤ tb) ?_ ?_
  rotate_left
  · intro hCont
    refine two_ (i := 1) (j := 4) (Ni := some 16) (Nj := some 8) #[true, true, true, false, false, false, false] #[true, false, true, false, true, false, false] rfl rfl rfl rfl (by kernel_rfl) (by decide) (by decide) (fun K hK => ?_) (fun K hK => ?_)
    · skip
      refine goes_ Try.func15 (by kernel_rfl) rfl #[.pointer (some ⟨rb, 0, none⟩)] (by rfl) rfl rfl (by simp only [List.map_toArray, List.map_cons, List.map_nil]; rfl) ?_
      with_reducible refine (rnum_calls rb g .nilIface L r1 _ hst.rdr hL2 H8.out HG1.out).mono ?_
      rintro e w1 ⟨rfl, hg1, hn1⟩
      refine ⟨_, rfl, ?_⟩
      obtain ⟨er1, hrd1, her1⟩ := hn1.ex2
      have hst1 := hst.num hg1 hrd1
      refine hK.out _ _ (hst1.cellv) (fun hHeld => ?_)
      clear hK K
      refine norm_ (a' := ?_) ?_ ?_
      rotate_left
      · show Act.put _ (some 16) _ = _
        simp only [Act.put, List.setIfInBounds_toArray, List.set_cons_zero, List.set_cons_succ, i64_w, i32_w]
        rfl
      refine two_ (i := 3) (j := 4) (Ni := some 18) (Nj := some 8) #[true, true, true, true, false, false, false] #[true, true, true, false, true, false, false] rfl rfl rfl rfl (by kernel_rfl) (by decide) (by decide) (fun K hK => ?_) (fun K hK => ?_)
      · skip
        refine goes_ Try.func15 (by kernel_rfl) rfl #[.pointer (some ⟨rb, 0, none⟩)] (by rfl) rfl rfl (by simp only [List.map_toArray, List.map_cons, List.map_nil]; rfl) ?_
        with_reducible refine (rnum_calls rb g er1 (leftL L r1) r2 _ hst1.rdr (Nat.le_trans (leftL_len L r1) hL2) (fun x hx => H8.out x (leftL_mem L r1 x hx)) HG2.out).mono ?_
        rintro e w12 ⟨rfl, hg12, hn12⟩
        refine ⟨_, rfl, ?_⟩
        obtain ⟨er2, hrd12, her2⟩ := hn12.ex2
        have hst12 := hst1.num hg12 hrd12
        refine hK.out _ _ (hst12.cellv) (fun hHeld => ?_)
        clear hK K
        refine norm_ (a' := ?_) ?_ ?_
        rotate_left
        · show Act.put _ (some 18) _ = _
          simp only [Act.put, List.setIfInBounds_toArray, List.set_cons_zero, List.set_cons_succ, i64_w, i32_w]
          rfl
        refine one_ (i := 4) (N := some 8) #[true, true, true, true, true, false, false] rfl rfl (by kernel_rfl) (by decide) (fun K hK => ?_)
        refine value_ (w1 := ?_) (v := ?_) (by rfl) rfl ?_ ?_
        rotate_left 2
        · go_simp
          constructor
          · rfl
          · rfl
        have hst124 := hst12.alloc (.cells #[.int .i64 0] 3)
        have htb124 := tb_new w12
        refine hK.out _ _ (hst124.cellv) (fun hHeld => ?_)
        clear hK K
        refine norm_ (a' := ?_) ?_ ?_
        rotate_left
        · show Act.put _ (some 8) _ = _
          simp only [Act.put, List.setIfInBounds_toArray, List.set_cons_zero, List.set_cons_succ, i64_w, i32_w]
          rfl
        exact norm_ (by simp only [putAll, Act.put, List.setIfInBounds_toArray, List.set_cons_zero, List.set_cons_succ]) (hCont (w12).heap.size _ ⟨er2, hst124, both_er HG1.out HG2.out her1 her2, htb124, hst12.size⟩)
      · skip
        refine value_ (w1 := ?_) (v := ?_) (by rfl) rfl ?_ ?_
        rotate_left 2
        · go_simp
          constructor
          · rfl
          · rfl
        have hst14 := hst1.alloc (.cells #[.int .i64 0] 3)
        have htb14 := tb_new w1
        refine hK.out _ _ (hst14.cellv) (fun hHeld => ?_)
        clear hK K
        refine norm_ (a' := ?_) ?_ ?_
        rotate_left
        · show Act.put _ (some 8) _ = _
          simp only [Act.put, List.setIfInBounds_toArray, List.set_cons_zero, List.set_cons_succ, i64_w, i32_w]
          rfl
        refine one_ (i := 3) (N := some 18) #[true, true, true, true, true, false, false] rfl rfl (by kernel_rfl) (by decide) (fun K hK => ?_)
        refine goes_ Try.func15 (by kernel_rfl) rfl #[.pointer (some ⟨rb, 0, none⟩)] (by rfl) rfl rfl (by simp only [List.map_toArray, List.map_cons, List.map_nil]; rfl) ?_
        with_reducible refine (rnum_calls rb g er1 (leftL L r1) r2 _ hst14.rdr (Nat.le_trans (leftL_len L r1) hL2) (fun x hx => H8.out x (leftL_mem L r1 x hx)) HG2.out).mono ?_
        rintro e w142 ⟨rfl, hg142, hn142⟩
        refine ⟨_, rfl, ?_⟩
        obtain ⟨er2, hrd142, her2⟩ := hn142.ex2
        have hst142 := hst14.num hg142 hrd142
        have htb142 := hst14.keep hg142 htb14
        refine hK.out _ _ (hst142.cellv) (fun hHeld => ?_)
        clear hK K
        refine norm_ (a' := ?_) ?_ ?_
        rotate_left
        · show Act.put _ (some 18) _ = _
          simp only [Act.put, List.setIfInBounds_toArray, List.set_cons_zero, List.set_cons_succ, i64_w, i32_w]
          rfl
        exact norm_ (by simp only [putAll, Act.put, List.setIfInBounds_toArray, List.set_cons_zero, List.set_cons_succ]) (hCont (w1).heap.size _ ⟨er2, hst142, both_er HG1.out HG2.out her1 her2, htb142, hst1.size⟩)
    · skip
      refine value_ (w1 := ?_) (v := ?_) (by rfl) rfl ?_ ?_
      rotate_left 2
      · go_simp
        constructor
        · rfl
        · rfl
      have hst4 := (hsti.alloc (.cells #[.int .i64 0] 3)).drew
      have htb4 : (wi.alloc (.cells #[.int .i64 0] 3)).drew.heap[wi.heap.size]? = _ := tb_new wi
      refine hK.out _ _ (hst4.cellv) (fun hHeld => ?_)
      clear hK K
      refine norm_ (a' := ?_) ?_ ?_
      rotate_left
      · show Act.put _ (some 8) _ = _
        simp only [Act.put, List.setIfInBounds_toArray, List.set_cons_zero, List.set_cons_succ, i64_w, i32_w]
        rfl
      refine one_ (i := 1) (N := some 16) #[true, true, true, false, true, false, false] rfl rfl (by kernel_rfl) (by decide) (fun K hK => ?_)
      refine goes_ Try.func15 (by kernel_rfl) rfl #[.pointer (some ⟨rb, 0, none⟩)] (by rfl) rfl rfl (by simp only [List.map_toArray, List.map_cons, List.map_nil]; rfl) ?_
      with_reducible refine (rnum_calls rb g .nilIface L r1 _ hst4.rdr hL2 H8.out HG1.out).mono ?_
      rintro e w41 ⟨rfl, hg41, hn41⟩
      refine ⟨_, rfl, ?_⟩
      obtain ⟨er1, hrd41, her1⟩ := hn41.ex2
      have hst41 := hst4.num hg41 hrd41
      have htb41 := hst4.keep hg41 htb4
      refine hK.out _ _ (hst41.cellv) (fun hHeld => ?_)
      clear hK K
      refine norm_ (a' := ?_) ?_ ?_
      rotate_left
      · show Act.put _ (some 16) _ = _
        simp only [Act.put, List.setIfInBounds_toArray, List.set_cons_zero, List.set_cons_succ, i64_w, i32_w]
        rfl
      refine one_ (i := 3) (N := some 18) #[true, true, true, true, true, false, false] rfl rfl (by kernel_rfl) (by decide) (fun K hK => ?_)
      refine goes_ Try.func15 (by kernel_rfl) rfl #[.pointer (some ⟨rb, 0, none⟩)] (by rfl) rfl rfl (by simp only [List.map_toArray, List.map_cons, List.map_nil]; rfl) ?_
      with_reducible refine (rnum_calls rb g er1 (leftL L r1) r2 _ hst41.rdr (Nat.le_trans (leftL_len L r1) hL2) (fun x hx => H8.out x (leftL_mem L r1 x hx)) HG2.out).mono ?_
      rintro e w412 ⟨rfl, hg412, hn412⟩
      refine ⟨_, rfl, ?_⟩
      obtain ⟨er2, hrd412, her2⟩ := hn412.ex2
      have hst412 := hst41.num hg412 hrd412
      have htb412 := hst41.keep hg412 htb41
      refine hK.out _ _ (hst412.cellv) (fun hHeld => ?_)
      clear hK K
      refine norm_ (a' := ?_) ?_ ?_
      rotate_left
      · show Act.put _ (some 18) _ = _
        simp only [Act.put, List.setIfInBounds_toArray, List.set_cons_zero, List.set_cons_succ, i64_w, i32_w]
        rfl
      exact norm_ (by simp only [putAll, Act.put, List.setIfInBounds_toArray, List.set_cons_zero, List.set_cons_succ]) (hCont wi.heap.size _ ⟨er2, hst412, both_er HG1.out HG2.out her1 her2, htb412, hst.size⟩)
  rintro tb wj ⟨er2, hst2, her, htb, hle⟩
  have hHeld := hst2.cellv
  have htbc : wj.cell? ⟨tb, 0, none⟩ = some (.int .i64 0) := by rw [Lib.cell_of_heap htb]; rfl
  have htbf : wj.frozen? ⟨tb, 0, none⟩ = false := Lib.frozen_of_heap htb 0
  refine norm_ (a' := ?_) ?_ ?_
  rotate_left
  · simp only [putAll, Act.put, List.setIfInBounds_toArray, List.set_cons_zero, List.set_cons_succ]
    rfl
  refine pure_ (i := 5) (N := some 7) (v := ?_) (a' := ?_) #[true, true, true, true, true, true, false] rfl rfl (by kernel_rfl) (fun _ _ _ h => h) (Or.inl ⟨by rfl, ?_⟩) ?_ ?_
  rotate_left
  · intro w'
    go_simp
    with_reducible rfl
  rotate_left
  · simp only [Act.put, List.setIfInBounds_toArray, List.set_cons_zero, List.set_cons_succ, i64_w, i32_w]
    rfl
  refine one_ (i := 6) (N := none) #[true, true, true, true, true, true, true] rfl rfl (by kernel_rfl) (by decide) (fun K hK => ?_)
  refine skip_ (w1 := ?_) (by rfl) rfl ?_ ?_
  rotate_left
  · go_simp
    rfl
  have hHeld2 : (wj.setCell ⟨tb, 0, none⟩ (.int .i64 (tri r2).1)).cell? ⟨rv, 0, none⟩ = some (.pointer (some ⟨rb, 0, none⟩)) := (hst2.set htb (.int .i64 (tri r2).1)).cellv
  refine hK.out _ _ (hHeld2) (fun hHeld => ?_)
  clear hK K
  refine done_ (by kernel_rfl) ?_
  dsimp only [NoP]
  have hst3 := hst2.set htb (.int .i64 (tri r2).1)
  have htb3 := set_c (v := .int .i64 (tri r2).1) htb
  have HBz := As.mk hst2.size
  obtain ⟨wk, hwk⟩ : ∃ wk, wj.setCell ⟨tb, 0, none⟩ (.int .i64 (tri r2).1) = wk := ⟨_, rfl⟩
  rw [hwk] at hst3 htb3 ⊢
  clear hwk hst2 htb htbc htbf hHeld hHeld2 hst hsti
  have hst4 := hst3.alloc (.cells #[.pointer none, .slice none 0 0] 42)
  have hp4 := hst4.cellv
  have HST3 := As.mk hst3
  have HST4 := As.mk hst4
  have HTB3 := As.mk htb3
  have HER := As.mk her
  clear hst3 hst4 htb3 her
  go_wp2_with (fail)
  refine (steps_calls rb base _).mono ?_
  rintro e wl ⟨rfl, hwl⟩
  have HWL := As.mk hwl
  clear hwl
  go_wp2_with (fail)
  obtain ⟨L2, hL20⟩ : ∃ L2, leftL (leftL L r1) r2 = L2 := ⟨_, rfl⟩
  have hL2l : L2.length ≤ 1099511627776 := by
    rw [← hL20]; exact Nat.le_trans (leftL_len _ _) (Nat.le_trans (leftL_len _ _) hL2)
  have H82 : As (∀ x ∈ L2, 0 ≤ x ∧ x < 256) := ⟨by
    rw [← hL20]; exact fun x hx => H8.out x (leftL_mem L r1 x (leftL_mem _ r2 x hx))⟩
  rw [hL20] at HST3 HST4
  have HL20 := As.mk hL20
  clear hL20
  obtain ⟨b, hbk⟩ : ∃ b, wk.heap.size = b := ⟨_, rfl⟩
  have hgb : g < b := by rw [← hbk]; exact old_lt HST3.out.gsr
  have hrbb : rb < b := by rw [← hbk]; exact HST3.out.rdr.lt
  have htbb : tb < b := by rw [← hbk]; exact old_lt HTB3.out
  have hrvb : rv < b := by rw [← hbk]; exact old_lt HST3.out.rvr
  have hwb : w.heap.size ≤ b := by rw [← hbk]; exact HST3.out.size
  have hwlb : As (wl.heap.size = b + 3) := ⟨by rw [HWL.out, ← hbk]; simp⟩
  have hstl : St0 w g rb rv gs fz L2 er2 wl := by rw [HWL.out]; exact (HST4.out.alloc _).alloc _
  have hbl : Below wk.heap.size wk wl := by rw [HWL.out]; exact (((Below.refl _ wk).alloc (Nat.le_refl _) _).alloc (by simp) _).alloc (by simp; omega) _
  have htbl : wl.heap[tb]? = some (.cells #[.int .i64 (tri r2).1] 3 (0, 0)) := (hbl.block tb (by omega)).trans HTB3.out
  have hbul : Lib.IsBuilderF 42 5 b b (Lib.byteCells (cat [])) wl := by
    rw [HWL.out, ← hbk]
    exact ((Lib.IsBuilderF.of (Lib.fresh_isBuilder 42 5 wk)).alloc _).alloc _
  have hrpl : wl.heap[b + 1]? = some (.cells #[.pointer (some ⟨rb, 0, none⟩)] 34 (0, 0)) := by
    rw [HWL.out, Lib.alloc_old _ _ _ (by simp; omega)]
    have := World.alloc_heap_new (wk.alloc (.cells #[.pointer none, .slice none 0 0] 42)) (.cells #[.pointer (some ⟨rb, 0, none⟩)] 34)
    rw [World.size_alloc, hbk] at this
    exact this
  have hbpl : wl.heap[b + 1 + 1]? = some (.cells #[.string base] 9 (0, 0)) := by
    rw [HWL.out]
    have := World.alloc_heap_new ((wk.alloc (.cells #[.pointer none, .slice none 0 0] 42)).alloc (.cells #[.pointer (some ⟨rb, 0, none⟩)] 34)) (.cells #[.string base] 9)
    rw [World.size_alloc, World.size_alloc, hbk] at this
    exact this
  obtain ⟨R, hR⟩ : ∃ R, (if r1.isSome && r2.isSome then runS base (L2.length + 1) L2 else ([], false)) = R := ⟨_, rfl⟩
  have hIt : Iterates Fence.wide 4 Try.prog 31 #[.pointer (some ⟨b + 1, 0, none⟩), .pointer (some ⟨b + 1 + 1, 0, none⟩)] (fun x : Piece => #[.string x.1]) (Kpb b) rb (Shr rb) (IterS R rb g) (Heads R) wl := by
    have her := HER.out
    rw [← hR]
    by_cases hs : (r1.isSome && r2.isSome) = true
    · rw [if_pos hs] at her ⊢
      rw [her] at hstl
      exact iter_calls 4 base b rb g (b + 1) (b + 1 + 1) (L2.length + 1) L2 wl hstl.rdr hrpl hbpl gs fz hstl.gsr hgb ⟨by omega, by omega, by omega⟩ (by omega) hL2l H82.out hbs
    · rw [if_neg hs] at her ⊢
      obtain ⟨a, ha⟩ := her
      rw [ha] at hstl
      exact iter_err 4 b rb g (b + 1) (b + 1 + 1) L2 a wl hstl.rdr hrpl
  have hge := HST3.out.ge
  have htr : tb ≠ rb ∧ rv ≠ rb := by
    obtain ⟨x, hx⟩ := HST3.out.rdr.shape
    refine ⟨fun e => ?_, fun e => ?_⟩
    · have := HTB3.out; rw [e, hx] at this; cases this
    · have := HST3.out.rvr; rw [e, hx] at this; cases this
  have hto0 : 0 ≤ (tri r2).1 ∧ (tri r2).1 ≤ 1099511627776 := by
    have := tri_range (leftL L r1) (fun x hx => H8.out x (leftL_mem L r1 x hx))
    rw [HG2.out] at this
    exact this
  obtain ⟨mx, hmx⟩ : ∃ mx, (tri r2).1 = mx := ⟨_, rfl⟩
  rw [hmx] at htbl hto0 ⊢
  have hI0 : In w b tb rv rb mx [] wl := ⟨hbul, by simp [cat]; exact hto0.1, htbl, hstl.rvr, hstl.rdr.sh, hstl.below⟩
  have hwle : w.heap.size ≤ wl.heap.size := hstl.below.size
  rw [hbk]
  have HIt := As.mk hIt
  have HI0 := As.mk hI0
  have HR := As.mk hR
  clear hIt hI0 hR hbpl hrpl hbul htbl hbl hstl
  refine (wpIn_wide (n := 5)).1 ?_
  refine range_own (F := Fence.wide) (n := 5) rfl (by decide) (gf := 31) (lb := #[.pointer (some ⟨b + 1, 0, none⟩), .pointer (some ⟨b + 1 + 1, 0, none⟩)]) rfl trivial (enters_of Try.func31 (by kernel_rfl) rfl)
    (encs := fun x : Piece => #[.string x.1]) (Kp := Kpb b) (rb := rb) (S := IterS R rb g) (Sp := Heads R) HIt.out (by rw [hwlb.out]; omega) (fun h k => kpb_trans h k) (fun W l o o' _ hl ho => kpb_put W l o o' hl ho) (fun _ => rfl)
    (In w b tb rv rb mx) (InX w rv rb mx) (In.own ⟨hrbb, htr.1, htr.2⟩ hwle) (In.rbs ⟨hrbb, htr.1, htr.2⟩ hge) (fun c => InX.own c hwle) IterS.own HI0.out
    ?a1 ?assign ?body ?done ?stop
  case a1 => exact fun x => { tmps := #[.string base, .string d, undef, undef, .string ⟨#[]⟩, .int .i64 0, .pointer (some ⟨rv, 0, none⟩), .int .i64 (tri r1).1, .pointer (some ⟨tb, 0, none⟩), .pointer (some ⟨b, 0, none⟩), .string x.1, .string d, .slice (some ⟨g, 0, none⟩) d.size (grownCap w d.size 0 5), .agg #[.slice (some ⟨g, 0, none⟩) d.size (grownCap w d.size 0 5), .nilIface], .pointer (some ⟨rb, 0, none⟩), .pointer (some ⟨rb, 0, none⟩), .int .i64 (tri r1).1, .pointer (some ⟨rb, 0, none⟩), .int .i64 mx, .pointer (some ⟨rb, 0, none⟩), .string base, .func (.func 31) #[] #[.pointer (some ⟨b + 1, 0, none⟩), .pointer (some ⟨b + 1 + 1, 0, none⟩)], .string x.1, undef, undef, undef, undef, undef, undef, undef, undef, undef, undef, undef, undef, undef, undef, undef, undef, undef, undef, undef, undef, undef, undef, undef, undef, undef, undef, undef, undef, undef, undef, undef, undef], defers := [] }
  case assign =>
    intro l x W K hK
    gi_wp2
    exact hK
  case body =>
    rintro l pre x W hl hIn
    have h3 : 1 ≤ 5 - 1 - 1 := by decide
    have mixed : Try.prog.follows .mixedOrders = true := by kernel_rfl
    obtain ⟨xs, hxs⟩ := x
    have hbd : Lib.IsBuilderF 42 5 b b (Lib.byteCells (cat pre)) W.drew := hIn.bu
    have hN : (Lib.byteCells (cat pre)).length = (cat pre).length := by simp [Lib.byteCells]
    have hle := hIn.le
    rw [← hN] at hle
    obtain ⟨bs, hbs'⟩ : ∃ bs, Lib.byteCells (cat pre) = bs := ⟨_, rfl⟩
    rw [hbs'] at hbd hle
    have htb0 : W.cell? ⟨tb, 0, none⟩ = some (.int .i64 mx) := by rw [Lib.cell_of_heap hIn.tb_]; rfl
    have hto1 := hto0.2
    have HIn := As.mk hIn
    have HBS := As.mk hbs'
    clear hIn hbs' hN
    have hwr : IntKind.i64.wrap ((bs.length : Int) + xs.size) = bs.length + xs.size := w64 _ (by omega) (by omega)
    have hq1 : bs.length + xs.size ≤ 140737488355328 := by omega
    have hq2 : b ≤ W.drew.heap.size := Nat.le_of_lt (bu_lt HIn.out.bu)
    by_cases hfit : (bs.length : Int) + xs.size ≤ mx
    · have e1 : decide (mx < (bs.length : Int) + xs.size) = false := decide_eq_false (by omega)
      gi_wp2
      gi_region_with_o (refine ⟨trivial, ?_⟩; gi_at_call 17; refine (CallsIn.inRound l (callsIn_wide.2 (Try.Builder_Len_f b b bs _ hbd))).mono ?_; rintro e w' ⟨rfl, rfl⟩)
      all_goals
        gi_wp2
        refine ⟨trivial, (CallsIn.inRound l (callsIn_wide.2 (writeString_k b b bs xs _ hbd hq1 hq2))).mono ?_⟩
        rintro e w2 ⟨rfl, k1, k2, k3⟩
        gi_wp2
        exact round_on HIn.out HBS.out hxs hfit hl hwlb.out hwb ⟨hrbb, htr.1, htr.2⟩ k1 k2 k3
    · have e1 : mx < (bs.length : Int) + xs.size := by omega
      have hmore : mx < (cat (pre ++ [⟨xs, hxs⟩])).length := by
        have q := congrArg List.length (strCells_cat pre xs hxs)
        rw [HBS.out, List.length_append, Lib.strCells_length] at q
        have q2 : (Lib.byteCells (cat (pre ++ [⟨xs, hxs⟩]))).length = (cat (pre ++ [⟨xs, hxs⟩])).length := by simp [Lib.byteCells]
        omega
      obtain ⟨x0, y0, hsh⟩ := HIn.out.sh
      have hrv0 : W.cell? ⟨rv, 0, none⟩ = some (.pointer (some ⟨rb, 0, none⟩)) := by rw [Lib.cell_of_heap HIn.out.rv_]; rfl
      have hsa := (Lib.alloc_old W (.cells #[.string ⟨#[108, 101, 110, 103, 116, 104]⟩] 48) rb (old_lt hsh)).trans hsh
      have q1 : (W.alloc (.cells #[.string ⟨#[108, 101, 110, 103, 116, 104]⟩] 48)).cell? ⟨rb, 1, none⟩ = some y0 := by rw [Lib.cell_of_heap hsa]; rfl
      have q2 : (W.alloc (.cells #[.string ⟨#[108, 101, 110, 103, 116, 104]⟩] 48)).frozen? ⟨rb, 1, none⟩ = false := Lib.frozen_of_heap hsa 1
      gi_wp2
      gi_region_with_o (refine ⟨trivial, ?_⟩; gi_at_call 17; refine (CallsIn.inRound l (callsIn_wide.2 (Try.Builder_Len_f b b bs _ hbd))).mono ?_; rintro e w' ⟨rfl, rfl⟩)
      all_goals gi_wp2
      all_goals exact round_off HIn.out _ hmore _ hl hwlb.out hwb ⟨hrbb, htr.1, htr.2⟩ hge
  case done =>
    rintro D xs W hD hS hIn hK
    obtain ⟨hxs, l9, er9, hrd9, her9⟩ := hS
    have hrv0 : W.drew.cell? ⟨rv, 0, none⟩ = some (.pointer (some ⟨rb, 0, none⟩)) := by
      show W.cell? _ = _
      rw [Lib.cell_of_heap hIn.rv_]; rfl
    have htb0 : W.drew.cell? ⟨tb, 0, none⟩ = some (.int .i64 mx) := by
      show W.cell? _ = _
      rw [Lib.cell_of_heap hIn.tb_]; rfl
    obtain ⟨x9, hx9⟩ := hrd9.shape
    have hrb1 : W.drew.cell? ⟨rb, 1, none⟩ = some er9 := by
      show W.cell? _ = _
      rw [Lib.cell_of_heap hx9]; rfl
    have hbd : Lib.IsBuilderF 42 5 b b (Lib.byteCells (cat xs)) W.drew := hIn.bu
    have hN : (Lib.byteCells (cat xs)).length = (cat xs).length := by simp [Lib.byteCells]
    obtain ⟨bs, hbs'⟩ : ∃ bs, Lib.byteCells (cat xs) = bs := ⟨_, rfl⟩
    rw [hbs'] at hbd hN
    have HIn := As.mk hIn
    have HBS := As.mk hbs'
    have HXS := As.mk hxs
    have HK := As.mk hK
    have HER9 := As.mk her9
    clear hIn hbs' hxs hK her9 hx9 hrd9
    have hres := applyR_of HG1.out HG2.out HL20.out HR.out
    rw [← HL0.out, HRes.out, hmx, ← HXS.out, ← cat_sum] at hres
    obtain ⟨from_, hfrom⟩ : ∃ x, (tri r1).1 = x := ⟨_, rfl⟩
    rw [hfrom] at hres ⊢
    have hbw : Below w.heap.size w W.drew := HIn.out.below.drew
    have hKd : W.drew.heap[D]? = some (.deferred (some [])) := HK.out
    have hDw : w.heap.size ≤ D := Nat.le_trans hwle hD
    have FIN : ∀ (v : Value) (W2 : World), Below w.heap.size w W2 → W2.heap[D]? = some (.deferred (some [])) → Below w.heap.size w (W2.putObj D (.deferred none)) := fun _ W2 h hk => h.grown (grownBy_putObj' W2 D _) h.size (fun k e => by cases e; exact hDw)
    by_cases hok : R.2 = true
    · have he9 := HER9.out
      rw [if_pos hok] at he9
      subst he9
      by_cases hbase : from_ = base.size
      · by_cases hlen : (bs.length : Int) = mx
        · rw [if_pos ⟨hok, hbase, by rw [← hN]; exact hlen⟩] at hres
          have e1 : ((bs.length : Int) != mx) = false := by rw [hlen]; simp
          subst hres
          go_wp2_with (fail)
          refine wp_noP ?_
          refine start_ (n := 17) (S := fun w' => w'.cell? ⟨rv, 0, none⟩ = some (.pointer (some ⟨rb, 0, none⟩)) ∧ w'.cell? ⟨rb, 1, none⟩ = some .nilIface ∧ w'.cell? ⟨tb, 0, none⟩ = some (.int .i64 mx)) (ds := []) #[false, false, false, false, false, false, false, false, false, false, false, false, false, false, false, false, false] (by kernel_rfl) rfl rfl ⟨hrv0, hrb1, htb0⟩ (fun hHeld => ?_)
          refine pure_ (i := 4) (N := some 41) (v := ?_) (a' := ?_) #[false, false, false, false, true, false, false, false, false, false, false, false, false, false, false, false, false] rfl rfl (by kernel_rfl) (fun _ _ _ h => h) (Or.inl ⟨by rfl, ?_⟩) ?_ ?_
          rotate_left
          · intro w'
            go_simp
            with_reducible rfl
          rotate_left
          · simp only [Act.put, List.setIfInBounds_toArray, List.set_cons_zero, List.set_cons_succ, i64_w, i32_w]
            rfl
          refine take_ (i := 0) (N := some 37) (v := ?_) (a' := ?_) #[true, false, false, false, true, false, false, false, false, false, false, false, false, false, false, false, false] rfl rfl (by kernel_rfl) (fun _ _ _ h => h) (Or.inl ⟨by rfl, ?_⟩) hHeld ?_ ?_
          rotate_left
          · rintro w' ⟨s0, s1, s2⟩
            go_simp
            with_reducible rfl
          rotate_left
          · simp only [Act.put, List.setIfInBounds_toArray, List.set_cons_zero, List.set_cons_succ, i64_w, i32_w]
            rfl
          refine pure_ (i := 1) (N := some 38) (v := ?_) (a' := ?_) #[true, true, false, false, true, false, false, false, false, false, false, false, false, false, false, false, false] rfl rfl (by kernel_rfl) (fun _ _ _ h => h) (Or.inl ⟨by rfl, ?_⟩) ?_ ?_
          rotate_left
          · intro w'
            go_simp
            with_reducible rfl
          rotate_left
          · simp only [Act.put, List.setIfInBounds_toArray, List.set_cons_zero, List.set_cons_succ, i64_w, i32_w]
            rfl
          refine pure_ (i := 2) (N := some 39) (v := ?_) (a' := ?_) #[true, true, true, false, true, false, false, false, false, false, false, false, false, false, false, false, false] rfl rfl (by kernel_rfl) (fun _ _ _ h => h) (Or.inl ⟨by rfl, ?_⟩) ?_ ?_
          rotate_left
          · intro w'
            go_simp
            with_reducible rfl
          rotate_left
          · simp only [Act.put, List.setIfInBounds_toArray, List.set_cons_zero, List.set_cons_succ, i64_w, i32_w]
            rfl
          refine take_ (i := 3) (N := some 40) (v := ?_) (a' := ?_) #[true, true, true, true, true, false, false, false, false, false, false, false, false, false, false, false, false] rfl rfl (by kernel_rfl) (fun _ _ _ h => h) (Or.inl ⟨by rfl, ?_⟩) hHeld ?_ ?_
          rotate_left
          · rintro w' ⟨s0, s1, s2⟩
            go_simp
            with_reducible rfl
          rotate_left
          · simp only [Act.put, List.setIfInBounds_toArray, List.set_cons_zero, List.set_cons_succ, i64_w, i32_w]
            rfl
          refine one_ (i := 5) (N := some 42) #[true, true, true, true, true, true, false, false, false, false, false, false, false, false, false, false, false] rfl rfl (by kernel_rfl) (by decide) (fun K hK => ?_)
          refine goes_ Try.func19 (by kernel_rfl) rfl #[.nilIface, .iface 23 (.int .i64 3)] (by rfl) rfl rfl (by simp only [List.map_toArray, List.map_cons, List.map_nil]; rfl) ?_
          with_reducible refine (is_nil _).mono ?_
          rintro e w9 ⟨rfl, rfl⟩
          refine ⟨_, rfl, ?_⟩
          refine hK.out _ _ ⟨hrv0, hrb1, htb0⟩ (fun hHeld => ?_)
          clear hK K
          refine norm_ (a' := ?_) ?_ ?_
          rotate_left
          · show Act.put _ (some 42) _ = _
            simp only [Act.put, List.setIfInBounds_toArray, List.set_cons_zero, List.set_cons_succ, i64_w, i32_w]
            rfl
          refine pure_ (i := 6) (N := some 43) (v := ?_) (a' := ?_) #[true, true, true, true, true, true, true, false, false, false, false, false, false, false, false, false, false] rfl rfl (by kernel_rfl) (fun _ _ _ h => h) (Or.inl ⟨by rfl, ?_⟩) ?_ ?_
          rotate_left
          · intro w'
            go_simp
            with_reducible rfl
          rotate_left
          · simp only [Act.put, List.setIfInBounds_toArray, List.set_cons_zero, List.set_cons_succ, i64_w, i32_w]
            rfl
          refine pure_ (i := 7) (N := some 44) (v := ?_) (a' := ?_) #[true, true, true, true, true, true, true, true, false, false, false, false, false, false, false, false, false] rfl rfl (by kernel_rfl) (fun _ _ _ h => h) (Or.inl ⟨by rfl, ?_⟩) ?_ ?_
          rotate_left
          · intro w'
            go_simp
            with_reducible rfl
          rotate_left
          · simp only [Act.put, List.setIfInBounds_toArray, List.set_cons_zero, List.set_cons_succ, i64_w, i32_w]
            rfl
          refine pure_ (i := 8) (N := some 45) (v := ?_) (a' := ?_) #[true, true, true, true, true, true, true, true, true, false, false, false, false, false, false, false, false] rfl rfl (by kernel_rfl) (fun _ _ _ h => h) (Or.inl ⟨by rfl, ?_⟩) ?_ ?_
          rotate_left
          · intro w'
            go_simp
            with_reducible rfl
          rotate_left
          · simp only [Act.put, List.setIfInBounds_toArray, List.set_cons_zero, List.set_cons_succ, i64_w, i32_w]
            rfl
          refine pure_ (i := 9) (N := some 46) (v := ?_) (a' := ?_) #[true, true, true, true, true, true, true, true, true, true, false, false, false, false, false, false, false] rfl rfl (by kernel_rfl) (fun _ _ _ h => h) (Or.inl ⟨by rfl, ?_⟩) ?_ ?_
          rotate_left
          · intro w'
            go_simp
            with_reducible rfl
          rotate_left
          · simp only [Act.put, List.setIfInBounds_toArray, List.set_cons_zero, List.set_cons_succ, i64_w, i32_w]
            rfl
          refine pure_ (i := 10) (N := some 47) (v := ?_) (a' := ?_) #[true, true, true, true, true, true, true, true, true, true, true, false, false, false, false, false, false] rfl rfl (by kernel_rfl) (fun _ _ _ h => h) (Or.inl ⟨by rfl, ?_⟩) ?_ ?_
          rotate_left
          · intro w'
            go_simp
            with_reducible rfl
          rotate_left
          · simp only [Act.put, List.setIfInBounds_toArray, List.set_cons_zero, List.set_cons_succ, i64_w, i32_w]
            rfl
          refine pure_ (i := 11) (N := some 48) (v := ?_) (a' := ?_) #[true, true, true, true, true, true, true, true, true, true, true, true, false, false, false, false, false] rfl rfl (by kernel_rfl) (fun _ _ _ h => h) (Or.inl ⟨by rfl, ?_⟩) ?_ ?_
          rotate_left
          · intro w'
            go_simp
            with_reducible rfl
          rotate_left
          · simp only [Act.put, List.setIfInBounds_toArray, List.set_cons_zero, List.set_cons_succ, i64_w, i32_w]
            rfl
          refine pure_ (i := 12) (N := some 49) (v := ?_) (a' := ?_) #[true, true, true, true, true, true, true, true, true, true, true, true, true, false, false, false, false] rfl rfl (by kernel_rfl) (fun _ _ _ h => h) (Or.inl ⟨by rfl, ?_⟩) ?_ ?_
          rotate_left
          · intro w'
            go_simp
            with_reducible rfl
          rotate_left
          · simp only [Act.put, List.setIfInBounds_toArray, List.set_cons_zero, List.set_cons_succ, i64_w, i32_w]
            rfl
          refine take_ (i := 14) (N := some 51) (v := ?_) (a' := ?_) #[true, true, true, true, true, true, true, true, true, true, true, true, true, false, true, false, false] rfl rfl (by kernel_rfl) (fun _ _ _ h => h) (Or.inl ⟨by rfl, ?_⟩) hHeld ?_ ?_
          rotate_left
          · rintro w' ⟨s0, s1, s2⟩
            go_simp
            with_reducible rfl
          rotate_left
          · simp only [Act.put, List.setIfInBounds_toArray, List.set_cons_zero, List.set_cons_succ, i64_w, i32_w]
            rfl
          refine one_ (i := 13) (N := some 50) #[true, true, true, true, true, true, true, true, true, true, true, true, true, true, true, false, false] rfl rfl (by kernel_rfl) (by decide) (fun K hK => ?_)
          refine goes_ Try.func17 (by kernel_rfl) rfl #[.pointer (some ⟨b, 0, none⟩)] (by rfl) rfl rfl (by simp only [List.map_toArray, List.map_cons, List.map_nil]; rfl) ?_
          with_reducible refine (Try.Builder_Len_f b b bs _ hbd).mono ?_
          rintro e w9 ⟨rfl, rfl⟩
          refine ⟨_, rfl, ?_⟩
          refine hK.out _ _ ⟨hrv0, hrb1, htb0⟩ (fun hHeld => ?_)
          clear hK K
          refine norm_ (a' := ?_) ?_ ?_
          rotate_left
          · show Act.put _ (some 50) _ = _
            simp only [Act.put, List.setIfInBounds_toArray, List.set_cons_zero, List.set_cons_succ, i64_w, i32_w]
            rfl
          refine pure_ (i := 15) (N := some 52) (v := ?_) (a' := ?_) #[true, true, true, true, true, true, true, true, true, true, true, true, true, true, true, true, false] rfl rfl (by kernel_rfl) (fun _ _ _ h => h) (Or.inl ⟨by rfl, ?_⟩) ?_ ?_
          rotate_left
          · intro w'
            go_simp
            with_reducible rfl
          rotate_left
          · simp only [Act.put, List.setIfInBounds_toArray, List.set_cons_zero, List.set_cons_succ, i64_w, i32_w]
            rfl
          refine pure_ (i := 16) (N := some 53) (v := ?_) (a' := ?_) #[true, true, true, true, true, true, true, true, true, true, true, true, true, true, true, true, true] rfl rfl (by kernel_rfl) (fun _ _ _ h => h) (Or.inl ⟨by rfl, ?_⟩) ?_ ?_
          rotate_left
          · intro w'
            go_simp
            with_reducible rfl
          rotate_left
          · simp only [Act.put, List.setIfInBounds_toArray, List.set_cons_zero, List.set_cons_succ, i64_w, i32_w]
            rfl
          refine done_ (by kernel_rfl) ?_
          dsimp only [NoP]
          clear hHeld
          have hbd0 : Lib.IsBuilderF 42 5 b b (Lib.byteCells (cat xs)) W.drew := HIn.out.bu
          have hbW : b ≤ W.drew.heap.size := Nat.le_of_lt (bu_lt hbd0)
          go_wp2_with (fail)
          refine (Try.Builder_String_any_k b b (cat xs) _ hbd0 hbW).mono ?_
          rintro e wz ⟨rfl, _, k2, k3⟩
          have hbw2 : Below w.heap.size w wz := hbw.trans (k2.mono hwb)
          have hKd2 : wz.heap[D]? = some (.deferred (some [])) := k3 D _ hKd (fun e => by cases e; have := hwlb.out; omega) (fun c' fz' e => by cases e)
          go_wp2_with (fail)
          refine ⟨by simp, .inl ⟨_, _, rfl, run_takeDeferred hKd2, ?_⟩⟩
          refine ⟨_, results_tmp2 rfl _ _ _, ?_, ?_⟩
          · rfl
          · have := FIN (.bool true) _ hbw2 hKd2
            rw [hg] at this
            exact this
        · rw [if_neg (fun h => hlen (by rw [hN]; exact h.2.2))] at hres
          have e0 : ((bs.length : Int) == mx) = false := beq_eq_false_iff_ne.2 hlen
          have e1 : ((bs.length : Int) != mx) = true := by rw [bne, e0]; rfl
          subst hres
          go_wp2_with (fail)
          refine wp_noP ?_
          refine start_ (n := 17) (S := fun w' => w'.cell? ⟨rv, 0, none⟩ = some (.pointer (some ⟨rb, 0, none⟩)) ∧ w'.cell? ⟨rb, 1, none⟩ = some .nilIface ∧ w'.cell? ⟨tb, 0, none⟩ = some (.int .i64 mx)) (ds := []) #[false, false, false, false, false, false, false, false, false, false, false, false, false, false, false, false, false] (by kernel_rfl) rfl rfl ⟨hrv0, hrb1, htb0⟩ (fun hHeld => ?_)
          refine pure_ (i := 4) (N := some 41) (v := ?_) (a' := ?_) #[false, false, false, false, true, false, false, false, false, false, false, false, false, false, false, false, false] rfl rfl (by kernel_rfl) (fun _ _ _ h => h) (Or.inl ⟨by rfl, ?_⟩) ?_ ?_
          rotate_left
          · intro w'
            go_simp
            with_reducible rfl
          rotate_left
          · simp only [Act.put, List.setIfInBounds_toArray, List.set_cons_zero, List.set_cons_succ, i64_w, i32_w]
            rfl
          refine take_ (i := 0) (N := some 37) (v := ?_) (a' := ?_) #[true, false, false, false, true, false, false, false, false, false, false, false, false, false, false, false, false] rfl rfl (by kernel_rfl) (fun _ _ _ h => h) (Or.inl ⟨by rfl, ?_⟩) hHeld ?_ ?_
          rotate_left
          · rintro w' ⟨s0, s1, s2⟩
            go_simp
            with_reducible rfl
          rotate_left
          · simp only [Act.put, List.setIfInBounds_toArray, List.set_cons_zero, List.set_cons_succ, i64_w, i32_w]
            rfl
          refine pure_ (i := 1) (N := some 38) (v := ?_) (a' := ?_) #[true, true, false, false, true, false, false, false, false, false, false, false, false, false, false, false, false] rfl rfl (by kernel_rfl) (fun _ _ _ h => h) (Or.inl ⟨by rfl, ?_⟩) ?_ ?_
          rotate_left
          · intro w'
            go_simp
            with_reducible rfl
          rotate_left
          · simp only [Act.put, List.setIfInBounds_toArray, List.set_cons_zero, List.set_cons_succ, i64_w, i32_w]
            rfl
          refine pure_ (i := 2) (N := some 39) (v := ?_) (a' := ?_) #[true, true, true, false, true, false, false, false, false, false, false, false, false, false, false, false, false] rfl rfl (by kernel_rfl) (fun _ _ _ h => h) (Or.inl ⟨by rfl, ?_⟩) ?_ ?_
          rotate_left
          · intro w'
            go_simp
            with_reducible rfl
          rotate_left
          · simp only [Act.put, List.setIfInBounds_toArray, List.set_cons_zero, List.set_cons_succ, i64_w, i32_w]
            rfl
          refine take_ (i := 3) (N := some 40) (v := ?_) (a' := ?_) #[true, true, true, true, true, false, false, false, false, false, false, false, false, false, false, false, false] rfl rfl (by kernel_rfl) (fun _ _ _ h => h) (Or.inl ⟨by rfl, ?_⟩) hHeld ?_ ?_
          rotate_left
          · rintro w' ⟨s0, s1, s2⟩
            go_simp
            with_reducible rfl
          rotate_left
          · simp only [Act.put, List.setIfInBounds_toArray, List.set_cons_zero, List.set_cons_succ, i64_w, i32_w]
            rfl
          refine one_ (i := 5) (N := some 42) #[true, true, true, true, true, true, false, false, false, false, false, false, false, false, false, false, false] rfl rfl (by kernel_rfl) (by decide) (fun K hK => ?_)
          refine goes_ Try.func19 (by kernel_rfl) rfl #[.nilIface, .iface 23 (.int .i64 3)] (by rfl) rfl rfl (by simp only [List.map_toArray, List.map_cons, List.map_nil]; rfl) ?_
          with_reducible refine (is_nil _).mono ?_
          rintro e w9 ⟨rfl, rfl⟩
          refine ⟨_, rfl, ?_⟩
          refine hK.out _ _ ⟨hrv0, hrb1, htb0⟩ (fun hHeld => ?_)
          clear hK K
          refine norm_ (a' := ?_) ?_ ?_
          rotate_left
          · show Act.put _ (some 42) _ = _
            simp only [Act.put, List.setIfInBounds_toArray, List.set_cons_zero, List.set_cons_succ, i64_w, i32_w]
            rfl
          refine pure_ (i := 6) (N := some 43) (v := ?_) (a' := ?_) #[true, true, true, true, true, true, true, false, false, false, false, false, false, false, false, false, false] rfl rfl (by kernel_rfl) (fun _ _ _ h => h) (Or.inl ⟨by rfl, ?_⟩) ?_ ?_
          rotate_left
          · intro w'
            go_simp
            with_reducible rfl
          rotate_left
          · simp only [Act.put, List.setIfInBounds_toArray, List.set_cons_zero, List.set_cons_succ, i64_w, i32_w]
            rfl
          refine pure_ (i := 7) (N := some 44) (v := ?_) (a' := ?_) #[true, true, true, true, true, true, true, true, false, false, false, false, false, false, false, false, false] rfl rfl (by kernel_rfl) (fun _ _ _ h => h) (Or.inl ⟨by rfl, ?_⟩) ?_ ?_
          rotate_left
          · intro w'
            go_simp
            with_reducible rfl
          rotate_left
          · simp only [Act.put, List.setIfInBounds_toArray, List.set_cons_zero, List.set_cons_succ, i64_w, i32_w]
            rfl
          refine pure_ (i := 8) (N := some 45) (v := ?_) (a' := ?_) #[true, true, true, true, true, true, true, true, true, false, false, false, false, false, false, false, false] rfl rfl (by kernel_rfl) (fun _ _ _ h => h) (Or.inl ⟨by rfl, ?_⟩) ?_ ?_
          rotate_left
          · intro w'
            go_simp
            with_reducible rfl
          rotate_left
          · simp only [Act.put, List.setIfInBounds_toArray, List.set_cons_zero, List.set_cons_succ, i64_w, i32_w]
            rfl
          refine pure_ (i := 9) (N := some 46) (v := ?_) (a' := ?_) #[true, true, true, true, true, true, true, true, true, true, false, false, false, false, false, false, false] rfl rfl (by kernel_rfl) (fun _ _ _ h => h) (Or.inl ⟨by rfl, ?_⟩) ?_ ?_
          rotate_left
          · intro w'
            go_simp
            with_reducible rfl
          rotate_left
          · simp only [Act.put, List.setIfInBounds_toArray, List.set_cons_zero, List.set_cons_succ, i64_w, i32_w]
            rfl
          refine pure_ (i := 10) (N := some 47) (v := ?_) (a' := ?_) #[true, true, true, true, true, true, true, true, true, true, true, false, false, false, false, false, false] rfl rfl (by kernel_rfl) (fun _ _ _ h => h) (Or.inl ⟨by rfl, ?_⟩) ?_ ?_
          rotate_left
          · intro w'
            go_simp
            with_reducible rfl
          rotate_left
          · simp only [Act.put, List.setIfInBounds_toArray, List.set_cons_zero, List.set_cons_succ, i64_w, i32_w]
            rfl
          refine pure_ (i := 11) (N := some 48) (v := ?_) (a' := ?_) #[true, true, true, true, true, true, true, true, true, true, true, true, false, false, false, false, false] rfl rfl (by kernel_rfl) (fun _ _ _ h => h) (Or.inl ⟨by rfl, ?_⟩) ?_ ?_
          rotate_left
          · intro w'
            go_simp
            with_reducible rfl
          rotate_left
          · simp only [Act.put, List.setIfInBounds_toArray, List.set_cons_zero, List.set_cons_succ, i64_w, i32_w]
            rfl
          refine pure_ (i := 12) (N := some 49) (v := ?_) (a' := ?_) #[true, true, true, true, true, true, true, true, true, true, true, true, true, false, false, false, false] rfl rfl (by kernel_rfl) (fun _ _ _ h => h) (Or.inl ⟨by rfl, ?_⟩) ?_ ?_
          rotate_left
          · intro w'
            go_simp
            with_reducible rfl
          rotate_left
          · simp only [Act.put, List.setIfInBounds_toArray, List.set_cons_zero, List.set_cons_succ, i64_w, i32_w]
            rfl
          refine take_ (i := 14) (N := some 51) (v := ?_) (a' := ?_) #[true, true, true, true, true, true, true, true, true, true, true, true, true, false, true, false, false] rfl rfl (by kernel_rfl) (fun _ _ _ h => h) (Or.inl ⟨by rfl, ?_⟩) hHeld ?_ ?_
          rotate_left
          · rintro w' ⟨s0, s1, s2⟩
            go_simp
            with_reducible rfl
          rotate_left
          · simp only [Act.put, List.setIfInBounds_toArray, List.set_cons_zero, List.set_cons_succ, i64_w, i32_w]
            rfl
          refine one_ (i := 13) (N := some 50) #[true, true, true, true, true, true, true, true, true, true, true, true, true, true, true, false, false] rfl rfl (by kernel_rfl) (by decide) (fun K hK => ?_)
          refine goes_ Try.func17 (by kernel_rfl) rfl #[.pointer (some ⟨b, 0, none⟩)] (by rfl) rfl rfl (by simp only [List.map_toArray, List.map_cons, List.map_nil]; rfl) ?_
          with_reducible refine (Try.Builder_Len_f b b bs _ hbd).mono ?_
          rintro e w9 ⟨rfl, rfl⟩
          refine ⟨_, rfl, ?_⟩
          refine hK.out _ _ ⟨hrv0, hrb1, htb0⟩ (fun hHeld => ?_)
          clear hK K
          refine norm_ (a' := ?_) ?_ ?_
          rotate_left
          · show Act.put _ (some 50) _ = _
            simp only [Act.put, List.setIfInBounds_toArray, List.set_cons_zero, List.set_cons_succ, i64_w, i32_w]
            rfl
          refine pure_ (i := 15) (N := some 52) (v := ?_) (a' := ?_) #[true, true, true, true, true, true, true, true, true, true, true, true, true, true, true, true, false] rfl rfl (by kernel_rfl) (fun _ _ _ h => h) (Or.inl ⟨by rfl, ?_⟩) ?_ ?_
          rotate_left
          · intro w'
            go_simp
            with_reducible rfl
          rotate_left
          · simp only [Act.put, List.setIfInBounds_toArray, List.set_cons_zero, List.set_cons_succ, i64_w, i32_w]
            rfl
          refine pure_ (i := 16) (N := some 53) (v := ?_) (a' := ?_) #[true, true, true, true, true, true, true, true, true, true, true, true, true, true, true, true, true] rfl rfl (by kernel_rfl) (fun _ _ _ h => h) (Or.inl ⟨by rfl, ?_⟩) ?_ ?_
          rotate_left
          · intro w'
            go_simp
            with_reducible rfl
          rotate_left
          · simp only [Act.put, List.setIfInBounds_toArray, List.set_cons_zero, List.set_cons_succ, i64_w, i32_w]
            rfl
          refine done_ (by kernel_rfl) ?_
          dsimp only [NoP]
          clear hHeld
          go_wp2_with (fail)
          refine ⟨by simp, .inl ⟨_, _, rfl, run_takeDeferred hKd, ?_⟩⟩
          refine ⟨_, results_tmp2 rfl _ _ _, rfl, ?_⟩
          have := FIN (.bool true) _ hbw hKd
          rw [hg] at this
          exact this
      · rw [if_neg (fun h => hbase h.2.1)] at hres
        have e1 : (from_ == (base.size : Int)) = false := beq_eq_false_iff_ne.2 hbase
        have e2 : (from_ != (base.size : Int)) = true := by rw [bne, e1]; rfl
        subst hres
        go_wp2_with (fail)
        refine wp_noP ?_
        refine start_ (n := 17) (S := fun w' => w'.cell? ⟨rv, 0, none⟩ = some (.pointer (some ⟨rb, 0, none⟩)) ∧ w'.cell? ⟨rb, 1, none⟩ = some .nilIface) (ds := []) #[false, false, false, false, false, false, false, false, false, false, false, false, false, false, false, false, false] (by kernel_rfl) rfl rfl ⟨hrv0, hrb1⟩ (fun hHeld => ?_)
        refine pure_ (i := 4) (N := some 41) (v := ?_) (a' := ?_) #[false, false, false, false, true, false, false, false, false, false, false, false, false, false, false, false, false] rfl rfl (by kernel_rfl) (fun _ _ _ h => h) (Or.inl ⟨by rfl, ?_⟩) ?_ ?_
        rotate_left
        · intro w'
          go_simp
          with_reducible rfl
        rotate_left
        · simp only [Act.put, List.setIfInBounds_toArray, List.set_cons_zero, List.set_cons_succ, i64_w, i32_w]
          rfl
        refine take_ (i := 0) (N := some 37) (v := ?_) (a' := ?_) #[true, false, false, false, true, false, false, false, false, false, false, false, false, false, false, false, false] rfl rfl (by kernel_rfl) (fun _ _ _ h => h) (Or.inl ⟨by rfl, ?_⟩) hHeld ?_ ?_
        rotate_left
        · rintro w' ⟨s0, s1⟩
          go_simp
          with_reducible rfl
        rotate_left
        · simp only [Act.put, List.setIfInBounds_toArray, List.set_cons_zero, List.set_cons_succ, i64_w, i32_w]
          rfl
        refine pure_ (i := 1) (N := some 38) (v := ?_) (a' := ?_) #[true, true, false, false, true, false, false, false, false, false, false, false, false, false, false, false, false] rfl rfl (by kernel_rfl) (fun _ _ _ h => h) (Or.inl ⟨by rfl, ?_⟩) ?_ ?_
        rotate_left
        · intro w'
          go_simp
          with_reducible rfl
        rotate_left
        · simp only [Act.put, List.setIfInBounds_toArray, List.set_cons_zero, List.set_cons_succ, i64_w, i32_w]
          rfl
        refine pure_ (i := 2) (N := some 39) (v := ?_) (a' := ?_) #[true, true, true, false, true, false, false, false, false, false, false, false, false, false, false, false, false] rfl rfl (by kernel_rfl) (fun _ _ _ h => h) (Or.inl ⟨by rfl, ?_⟩) ?_ ?_
        rotate_left
        · intro w'
          go_simp
          with_reducible rfl
        rotate_left
        · simp only [Act.put, List.setIfInBounds_toArray, List.set_cons_zero, List.set_cons_succ, i64_w, i32_w]
          rfl
        refine take_ (i := 3) (N := some 40) (v := ?_) (a' := ?_) #[true, true, true, true, true, false, false, false, false, false, false, false, false, false, false, false, false] rfl rfl (by kernel_rfl) (fun _ _ _ h => h) (Or.inl ⟨by rfl, ?_⟩) hHeld ?_ ?_
        rotate_left
        · rintro w' ⟨s0, s1⟩
          go_simp
          with_reducible rfl
        rotate_left
        · simp only [Act.put, List.setIfInBounds_toArray, List.set_cons_zero, List.set_cons_succ, i64_w, i32_w]
          rfl
        refine one_ (i := 5) (N := some 42) #[true, true, true, true, true, true, false, false, false, false, false, false, false, false, false, false, false] rfl rfl (by kernel_rfl) (by decide) (fun K hK => ?_)
        refine goes_ Try.func19 (by kernel_rfl) rfl #[.nilIface, .iface 23 (.int .i64 3)] (by rfl) rfl rfl (by simp only [List.map_toArray, List.map_cons, List.map_nil]; rfl) ?_
        with_reducible refine (is_nil _).mono ?_
        rintro e w9 ⟨rfl, rfl⟩
        refine ⟨_, rfl, ?_⟩
        refine hK.out _ _ ⟨hrv0, hrb1⟩ (fun hHeld => ?_)
        clear hK K
        refine norm_ (a' := ?_) ?_ ?_
        rotate_left
        · show Act.put _ (some 42) _ = _
          simp only [Act.put, List.setIfInBounds_toArray, List.set_cons_zero, List.set_cons_succ, i64_w, i32_w]
          rfl
        refine pure_ (i := 6) (N := some 43) (v := ?_) (a' := ?_) #[true, true, true, true, true, true, true, false, false, false, false, false, false, false, false, false, false] rfl rfl (by kernel_rfl) (fun _ _ _ h => h) (Or.inl ⟨by rfl, ?_⟩) ?_ ?_
        rotate_left
        · intro w'
          go_simp
          with_reducible rfl
        rotate_left
        · simp only [Act.put, List.setIfInBounds_toArray, List.set_cons_zero, List.set_cons_succ, i64_w, i32_w]
          rfl
        refine pure_ (i := 7) (N := some 44) (v := ?_) (a' := ?_) #[true, true, true, true, true, true, true, true, false, false, false, false, false, false, false, false, false] rfl rfl (by kernel_rfl) (fun _ _ _ h => h) (Or.inl ⟨by rfl, ?_⟩) ?_ ?_
        rotate_left
        · intro w'
          go_simp
          with_reducible rfl
        rotate_left
        · simp only [Act.put, List.setIfInBounds_toArray, List.set_cons_zero, List.set_cons_succ, i64_w, i32_w]
          rfl
        refine pure_ (i := 8) (N := some 45) (v := ?_) (a' := ?_) #[true, true, true, true, true, true, true, true, true, false, false, false, false, false, false, false, false] rfl rfl (by kernel_rfl) (fun _ _ _ h => h) (Or.inl ⟨by rfl, ?_⟩) ?_ ?_
        rotate_left
        · intro w'
          go_simp
          with_reducible rfl
        rotate_left
        · simp only [Act.put, List.setIfInBounds_toArray, List.set_cons_zero, List.set_cons_succ, i64_w, i32_w]
          rfl
        refine pure_ (i := 9) (N := some 46) (v := ?_) (a' := ?_) #[true, true, true, true, true, true, true, true, true, true, false, false, false, false, false, false, false] rfl rfl (by kernel_rfl) (fun _ _ _ h => h) (Or.inl ⟨by rfl, ?_⟩) ?_ ?_
        rotate_left
        · intro w'
          go_simp
          with_reducible rfl
        rotate_left
        · simp only [Act.put, List.setIfInBounds_toArray, List.set_cons_zero, List.set_cons_succ, i64_w, i32_w]
          rfl
        refine pure_ (i := 10) (N := some 47) (v := ?_) (a' := ?_) #[true, true, true, true, true, true, true, true, true, true, true, false, false, false, false, false, false] rfl rfl (by kernel_rfl) (fun _ _ _ h => h) (Or.inl ⟨by rfl, ?_⟩) ?_ ?_
        rotate_left
        · intro w'
          go_simp
          with_reducible rfl
        rotate_left
        · simp only [Act.put, List.setIfInBounds_toArray, List.set_cons_zero, List.set_cons_succ, i64_w, i32_w]
          rfl
        refine pure_ (i := 11) (N := some 48) (v := ?_) (a' := ?_) #[true, true, true, true, true, true, true, true, true, true, true, true, false, false, false, false, false] rfl rfl (by kernel_rfl) (fun _ _ _ h => h) (Or.inl ⟨by rfl, ?_⟩) ?_ ?_
        rotate_left
        · intro w'
          go_simp
          with_reducible rfl
        rotate_left
        · simp only [Act.put, List.setIfInBounds_toArray, List.set_cons_zero, List.set_cons_succ, i64_w, i32_w]
          rfl
        refine pure_ (i := 12) (N := some 49) (v := ?_) (a' := ?_) #[true, true, true, true, true, true, true, true, true, true, true, true, true, false, false, false, false] rfl rfl (by kernel_rfl) (fun _ _ _ h => h) (Or.inl ⟨by rfl, ?_⟩) ?_ ?_
        rotate_left
        · intro w'
          go_simp
          with_reducible rfl
        rotate_left
        · simp only [Act.put, List.setIfInBounds_toArray, List.set_cons_zero, List.set_cons_succ, i64_w, i32_w]
          rfl
        refine pure_ (i := 13) (N := some 50) (v := undef) (a' := ?_) #[true, true, true, true, true, true, true, true, true, true, true, true, true, true, false, false, false] rfl rfl (by kernel_rfl) (fun _ _ _ h => h) (Or.inr ⟨by rfl, rfl⟩) ?_ ?_
        rotate_left
        · simp only [Act.put, List.setIfInBounds_toArray, List.set_cons_zero, List.set_cons_succ, i64_w, i32_w]
          rfl
        refine pure_ (i := 14) (N := some 51) (v := undef) (a' := ?_) #[true, true, true, true, true, true, true, true, true, true, true, true, true, true, true, false, false] rfl rfl (by kernel_rfl) (fun _ _ _ h => h) (Or.inr ⟨by rfl, rfl⟩) ?_ ?_
        rotate_left
        · simp only [Act.put, List.setIfInBounds_toArray, List.set_cons_zero, List.set_cons_succ, i64_w, i32_w]
          rfl
        refine pure_ (i := 15) (N := some 52) (v := undef) (a' := ?_) #[true, true, true, true, true, true, true, true, true, true, true, true, true, true, true, true, false] rfl rfl (by kernel_rfl) (fun _ _ _ h => h) (Or.inr ⟨by rfl, rfl⟩) ?_ ?_
        rotate_left
        · simp only [Act.put, List.setIfInBounds_toArray, List.set_cons_zero, List.set_cons_succ, i64_w, i32_w]
          rfl
        refine pure_ (i := 16) (N := some 53) (v := ?_) (a' := ?_) #[true, true, true, true, true, true, true, true, true, true, true, true, true, true, true, true, true] rfl rfl (by kernel_rfl) (fun _ _ _ h => h) (Or.inl ⟨by rfl, ?_⟩) ?_ ?_
        rotate_left
        · intro w'
          go_simp
          with_reducible rfl
        rotate_left
        · simp only [Act.put, List.setIfInBounds_toArray, List.set_cons_zero, List.set_cons_succ, i64_w, i32_w]
          rfl
        refine done_ (by kernel_rfl) ?_
        dsimp only [NoP]
        clear hHeld
        go_wp2_with (fail)
        refine ⟨by simp, .inl ⟨_, _, rfl, run_takeDeferred hKd, ?_⟩⟩
        refine ⟨_, results_tmp2 rfl _ _ _, rfl, ?_⟩
        have := FIN (.bool true) _ hbw hKd
        rw [hg] at this
        exact this
    · have he9 := HER9.out
      rw [if_neg hok] at he9
      rw [if_neg (fun h => hok h.1)] at hres
      obtain ⟨a, he9⟩ := he9
      subst he9
      subst hres
      go_wp2_with (fail)
      refine wp_noP ?_
      refine start_ (n := 17) (S := fun w' => w'.cell? ⟨rv, 0, none⟩ = some (.pointer (some ⟨rb, 0, none⟩)) ∧ w'.cell? ⟨rb, 1, none⟩ = some (.iface 46 (.pointer a))) (ds := []) #[false, false, false, false, false, false, false, false, false, false, false, false, false, false, false, false, false] (by kernel_rfl) rfl rfl ⟨hrv0, hrb1⟩ (fun hHeld => ?_)
      refine pure_ (i := 4) (N := some 41) (v := ?_) (a' := ?_) #[false, false, false, false, true, false, false, false, false, false, false, false, false, false, false, false, false] rfl rfl (by kernel_rfl) (fun _ _ _ h => h) (Or.inl ⟨by rfl, ?_⟩) ?_ ?_
      rotate_left
      · intro w'
        go_simp
        with_reducible rfl
      rotate_left
      · simp only [Act.put, List.setIfInBounds_toArray, List.set_cons_zero, List.set_cons_succ, i64_w, i32_w]
        rfl
      refine take_ (i := 0) (N := some 37) (v := ?_) (a' := ?_) #[true, false, false, false, true, false, false, false, false, false, false, false, false, false, false, false, false] rfl rfl (by kernel_rfl) (fun _ _ _ h => h) (Or.inl ⟨by rfl, ?_⟩) hHeld ?_ ?_
      rotate_left
      · rintro w' ⟨s0, s1⟩
        go_simp
        with_reducible rfl
      rotate_left
      · simp only [Act.put, List.setIfInBounds_toArray, List.set_cons_zero, List.set_cons_succ, i64_w, i32_w]
        rfl
      refine pure_ (i := 1) (N := some 38) (v := ?_) (a' := ?_) #[true, true, false, false, true, false, false, false, false, false, false, false, false, false, false, false, false] rfl rfl (by kernel_rfl) (fun _ _ _ h => h) (Or.inl ⟨by rfl, ?_⟩) ?_ ?_
      rotate_left
      · intro w'
        go_simp
        with_reducible rfl
      rotate_left
      · simp only [Act.put, List.setIfInBounds_toArray, List.set_cons_zero, List.set_cons_succ, i64_w, i32_w]
        rfl
      refine pure_ (i := 2) (N := some 39) (v := ?_) (a' := ?_) #[true, true, true, false, true, false, false, false, false, false, false, false, false, false, false, false, false] rfl rfl (by kernel_rfl) (fun _ _ _ h => h) (Or.inl ⟨by rfl, ?_⟩) ?_ ?_
      rotate_left
      · intro w'
        go_simp
        with_reducible rfl
      rotate_left
      · simp only [Act.put, List.setIfInBounds_toArray, List.set_cons_zero, List.set_cons_succ, i64_w, i32_w]
        rfl
      refine take_ (i := 3) (N := some 40) (v := ?_) (a' := ?_) #[true, true, true, true, true, false, false, false, false, false, false, false, false, false, false, false, false] rfl rfl (by kernel_rfl) (fun _ _ _ h => h) (Or.inl ⟨by rfl, ?_⟩) hHeld ?_ ?_
      rotate_left
      · rintro w' ⟨s0, s1⟩
        go_simp
        with_reducible rfl
      rotate_left
      · simp only [Act.put, List.setIfInBounds_toArray, List.set_cons_zero, List.set_cons_succ, i64_w, i32_w]
        rfl
      refine one_ (i := 5) (N := some 42) #[true, true, true, true, true, true, false, false, false, false, false, false, false, false, false, false, false] rfl rfl (by kernel_rfl) (by decide) (fun K hK => ?_)
      refine goes_ Try.func19 (by kernel_rfl) rfl #[.iface 46 (.pointer a), .iface 23 (.int .i64 3)] (by rfl) rfl rfl (by simp only [List.map_toArray, List.map_cons, List.map_nil]; rfl) ?_
      with_reducible refine (is_broken a _).mono ?_
      rintro e w9 ⟨rfl, rfl⟩
      refine ⟨_, rfl, ?_⟩
      refine hK.out _ _ ⟨hrv0, hrb1⟩ (fun hHeld => ?_)
      clear hK K
      refine norm_ (a' := ?_) ?_ ?_
      rotate_left
      · show Act.put _ (some 42) _ = _
        simp only [Act.put, List.setIfInBounds_toArray, List.set_cons_zero, List.set_cons_succ, i64_w, i32_w]
        rfl
      refine pure_ (i := 6) (N := some 43) (v := ?_) (a' := ?_) #[true, true, true, true, true, true, true, false, false, false, false, false, false, false, false, false, false] rfl rfl (by kernel_rfl) (fun _ _ _ h => h) (Or.inl ⟨by rfl, ?_⟩) ?_ ?_
      rotate_left
      · intro w'
        go_simp
        with_reducible rfl
      rotate_left
      · simp only [Act.put, List.setIfInBounds_toArray, List.set_cons_zero, List.set_cons_succ, i64_w, i32_w]
        rfl
      refine pure_ (i := 7) (N := some 44) (v := undef) (a' := ?_) #[true, true, true, true, true, true, true, true, false, false, false, false, false, false, false, false, false] rfl rfl (by kernel_rfl) (fun _ _ _ h => h) (Or.inr ⟨by rfl, rfl⟩) ?_ ?_
      rotate_left
      · simp only [Act.put, List.setIfInBounds_toArray, List.set_cons_zero, List.set_cons_succ, i64_w, i32_w]
        rfl
      refine pure_ (i := 8) (N := some 45) (v := undef) (a' := ?_) #[true, true, true, true, true, true, true, true, true, false, false, false, false, false, false, false, false] rfl rfl (by kernel_rfl) (fun _ _ _ h => h) (Or.inr ⟨by rfl, rfl⟩) ?_ ?_
      rotate_left
      · simp only [Act.put, List.setIfInBounds_toArray, List.set_cons_zero, List.set_cons_succ, i64_w, i32_w]
        rfl
      refine pure_ (i := 9) (N := some 46) (v := undef) (a' := ?_) #[true, true, true, true, true, true, true, true, true, true, false, false, false, false, false, false, false] rfl rfl (by kernel_rfl) (fun _ _ _ h => h) (Or.inr ⟨by rfl, rfl⟩) ?_ ?_
      rotate_left
      · simp only [Act.put, List.setIfInBounds_toArray, List.set_cons_zero, List.set_cons_succ, i64_w, i32_w]
        rfl
      refine pure_ (i := 10) (N := some 47) (v := undef) (a' := ?_) #[true, true, true, true, true, true, true, true, true, true, true, false, false, false, false, false, false] rfl rfl (by kernel_rfl) (fun _ _ _ h => h) (Or.inr ⟨by rfl, rfl⟩) ?_ ?_
      rotate_left
      · simp only [Act.put, List.setIfInBounds_toArray, List.set_cons_zero, List.set_cons_succ, i64_w, i32_w]
        rfl
      refine pure_ (i := 11) (N := some 48) (v := ?_) (a' := ?_) #[true, true, true, true, true, true, true, true, true, true, true, true, false, false, false, false, false] rfl rfl (by kernel_rfl) (fun _ _ _ h => h) (Or.inl ⟨by rfl, ?_⟩) ?_ ?_
      rotate_left
      · intro w'
        go_simp
        with_reducible rfl
      rotate_left
      · simp only [Act.put, List.setIfInBounds_toArray, List.set_cons_zero, List.set_cons_succ, i64_w, i32_w]
        rfl
      refine pure_ (i := 12) (N := some 49) (v := ?_) (a' := ?_) #[true, true, true, true, true, true, true, true, true, true, true, true, true, false, false, false, false] rfl rfl (by kernel_rfl) (fun _ _ _ h => h) (Or.inl ⟨by rfl, ?_⟩) ?_ ?_
      rotate_left
      · intro w'
        go_simp
        with_reducible rfl
      rotate_left
      · simp only [Act.put, List.setIfInBounds_toArray, List.set_cons_zero, List.set_cons_succ, i64_w, i32_w]
        rfl
      refine pure_ (i := 13) (N := some 50) (v := undef) (a' := ?_) #[true, true, true, true, true, true, true, true, true, true, true, true, true, true, false, false, false] rfl rfl (by kernel_rfl) (fun _ _ _ h => h) (Or.inr ⟨by rfl, rfl⟩) ?_ ?_
      rotate_left
      · simp only [Act.put, List.setIfInBounds_toArray, List.set_cons_zero, List.set_cons_succ, i64_w, i32_w]
        rfl
      refine pure_ (i := 14) (N := some 51) (v := undef) (a' := ?_) #[true, true, true, true, true, true, true, true, true, true, true, true, true, true, true, false, false] rfl rfl (by kernel_rfl) (fun _ _ _ h => h) (Or.inr ⟨by rfl, rfl⟩) ?_ ?_
      rotate_left
      · simp only [Act.put, List.setIfInBounds_toArray, List.set_cons_zero, List.set_cons_succ, i64_w, i32_w]
        rfl
      refine pure_ (i := 15) (N := some 52) (v := undef) (a' := ?_) #[true, true, true, true, true, true, true, true, true, true, true, true, true, true, true, true, false] rfl rfl (by kernel_rfl) (fun _ _ _ h => h) (Or.inr ⟨by rfl, rfl⟩) ?_ ?_
      rotate_left
      · simp only [Act.put, List.setIfInBounds_toArray, List.set_cons_zero, List.set_cons_succ, i64_w, i32_w]
        rfl
      refine pure_ (i := 16) (N := some 53) (v := ?_) (a' := ?_) #[true, true, true, true, true, true, true, true, true, true, true, true, true, true, true, true, true] rfl rfl (by kernel_rfl) (fun _ _ _ h => h) (Or.inl ⟨by rfl, ?_⟩) ?_ ?_
      rotate_left
      · intro w'
        go_simp
        with_reducible rfl
      rotate_left
      · simp only [Act.put, List.setIfInBounds_toArray, List.set_cons_zero, List.set_cons_succ, i64_w, i32_w]
        rfl
      refine done_ (by kernel_rfl) ?_
      dsimp only [NoP]
      clear hHeld
      go_wp2_with (fail)
      refine ⟨by simp, .inl ⟨_, _, rfl, run_takeDeferred hKd, ?_⟩⟩
      refine ⟨_, results_tmp2 rfl _ _ _, rfl, ?_⟩
      have := FIN (.bool true) _ hbw hKd
      rw [hg] at this
      exact this
  case stop =>
    rintro D c pre W hD hSp hX hK
    obtain ⟨rest, hrest⟩ := hSp
    have hres := applyR_of HG1.out HG2.out HL20.out HR.out
    have hno : ¬ (R.2 = true ∧ (tri r1).1 = base.size ∧ ((sumL R.1).length : Int) = (tri r2).1) := by
      rintro ⟨_, _, h⟩
      have h1 := hX.more
      rw [cat_sum] at h1
      rw [← hrest, hmx] at h
      simp only [sumL, List.flatMap_append, List.length_append] at h h1
      omega
    rw [← HL0.out, HRes.out, if_neg hno] at hres
    subst hres
    obtain ⟨x9, a, hx9⟩ := hX.er
    have hrv0 : W.drew.cell? ⟨rv, 0, none⟩ = some (.pointer (some ⟨rb, 0, none⟩)) := by
      show W.cell? _ = _
      rw [Lib.cell_of_heap hX.rv_]; rfl
    have hrb1 : W.drew.cell? ⟨rb, 1, none⟩ = some (.iface 46 (.pointer a)) := by
      show W.cell? _ = _
      rw [Lib.cell_of_heap hx9]; rfl
    have hbw : Below w.heap.size w W.drew := hX.below.drew
    have hKd : W.drew.heap[D]? = some (.deferred (some [])) := hK
    have hDw : w.heap.size ≤ D := Nat.le_trans hwle hD
    have hc := hX.exit_
    subst hc
    clear hX hx9 hno hrest
    gi_wp2
    go_wp2_with (fail)
    refine wp_noP ?_
    refine start_ (n := 17) (S := fun w' => w'.cell? ⟨rv, 0, none⟩ = some (.pointer (some ⟨rb, 0, none⟩)) ∧ w'.cell? ⟨rb, 1, none⟩ = some (.iface 46 (.pointer a))) (ds := []) #[false, false, false, false, false, false, false, false, false, false, false, false, false, false, false, false, false] (by kernel_rfl) rfl rfl ⟨hrv0, hrb1⟩ (fun hHeld => ?_)
    refine pure_ (i := 4) (N := some 41) (v := ?_) (a' := ?_) #[false, false, false, false, true, false, false, false, false, false, false, false, false, false, false, false, false] rfl rfl (by kernel_rfl) (fun _ _ _ h => h) (Or.inl ⟨by rfl, ?_⟩) ?_ ?_
    rotate_left
    · intro w'
      go_simp
      with_reducible rfl
    rotate_left
    · simp only [Act.put, List.setIfInBounds_toArray, List.set_cons_zero, List.set_cons_succ, i64_w, i32_w]
      rfl
    refine take_ (i := 0) (N := some 37) (v := ?_) (a' := ?_) #[true, false, false, false, true, false, false, false, false, false, false, false, false, false, false, false, false] rfl rfl (by kernel_rfl) (fun _ _ _ h => h) (Or.inl ⟨by rfl, ?_⟩) hHeld ?_ ?_
    rotate_left
    · rintro w' ⟨s0, s1⟩
      go_simp
      with_reducible rfl
    rotate_left
    · simp only [Act.put, List.setIfInBounds_toArray, List.set_cons_zero, List.set_cons_succ, i64_w, i32_w]
      rfl
    refine pure_ (i := 1) (N := some 38) (v := ?_) (a' := ?_) #[true, true, false, false, true, false, false, false, false, false, false, false, false, false, false, false, false] rfl rfl (by kernel_rfl) (fun _ _ _ h => h) (Or.inl ⟨by rfl, ?_⟩) ?_ ?_
    rotate_left
    · intro w'
      go_simp
      with_reducible rfl
    rotate_left
    · simp only [Act.put, List.setIfInBounds_toArray, List.set_cons_zero, List.set_cons_succ, i64_w, i32_w]
      rfl
    refine pure_ (i := 2) (N := some 39) (v := ?_) (a' := ?_) #[true, true, true, false, true, false, false, false, false, false, false, false, false, false, false, false, false] rfl rfl (by kernel_rfl) (fun _ _ _ h => h) (Or.inl ⟨by rfl, ?_⟩) ?_ ?_
    rotate_left
    · intro w'
      go_simp
      with_reducible rfl
    rotate_left
    · simp only [Act.put, List.setIfInBounds_toArray, List.set_cons_zero, List.set_cons_succ, i64_w, i32_w]
      rfl
    refine take_ (i := 3) (N := some 40) (v := ?_) (a' := ?_) #[true, true, true, true, true, false, false, false, false, false, false, false, false, false, false, false, false] rfl rfl (by kernel_rfl) (fun _ _ _ h => h) (Or.inl ⟨by rfl, ?_⟩) hHeld ?_ ?_
    rotate_left
    · rintro w' ⟨s0, s1⟩
      go_simp
      with_reducible rfl
    rotate_left
    · simp only [Act.put, List.setIfInBounds_toArray, List.set_cons_zero, List.set_cons_succ, i64_w, i32_w]
      rfl
    refine one_ (i := 5) (N := some 42) #[true, true, true, true, true, true, false, false, false, false, false, false, false, false, false, false, false] rfl rfl (by kernel_rfl) (by decide) (fun K hK => ?_)
    refine goes_ Try.func19 (by kernel_rfl) rfl #[.iface 46 (.pointer a), .iface 23 (.int .i64 3)] (by rfl) rfl rfl (by simp only [List.map_toArray, List.map_cons, List.map_nil]; rfl) ?_
    with_reducible refine (is_broken a _).mono ?_
    rintro e w9 ⟨rfl, rfl⟩
    refine ⟨_, rfl, ?_⟩
    refine hK.out _ _ ⟨hrv0, hrb1⟩ (fun hHeld => ?_)
    clear hK K
    refine norm_ (a' := ?_) ?_ ?_
    rotate_left
    · show Act.put _ (some 42) _ = _
      simp only [Act.put, List.setIfInBounds_toArray, List.set_cons_zero, List.set_cons_succ, i64_w, i32_w]
      rfl
    refine pure_ (i := 6) (N := some 43) (v := ?_) (a' := ?_) #[true, true, true, true, true, true, true, false, false, false, false, false, false, false, false, false, false] rfl rfl (by kernel_rfl) (fun _ _ _ h => h) (Or.inl ⟨by rfl, ?_⟩) ?_ ?_
    rotate_left
    · intro w'
      go_simp
      with_reducible rfl
    rotate_left
    · simp only [Act.put, List.setIfInBounds_toArray, List.set_cons_zero, List.set_cons_succ, i64_w, i32_w]
      rfl
    refine pure_ (i := 7) (N := some 44) (v := undef) (a' := ?_) #[true, true, true, true, true, true, true, true, false, false, false, false, false, false, false, false, false] rfl rfl (by kernel_rfl) (fun _ _ _ h => h) (Or.inr ⟨by rfl, rfl⟩) ?_ ?_
    rotate_left
    · simp only [Act.put, List.setIfInBounds_toArray, List.set_cons_zero, List.set_cons_succ, i64_w, i32_w]
      rfl
    refine pure_ (i := 8) (N := some 45) (v := undef) (a' := ?_) #[true, true, true, true, true, true, true, true, true, false, false, false, false, false, false, false, false] rfl rfl (by kernel_rfl) (fun _ _ _ h => h) (Or.inr ⟨by rfl, rfl⟩) ?_ ?_
    rotate_left
    · simp only [Act.put, List.setIfInBounds_toArray, List.set_cons_zero, List.set_cons_succ, i64_w, i32_w]
      rfl
    refine pure_ (i := 9) (N := some 46) (v := undef) (a' := ?_) #[true, true, true, true, true, true, true, true, true, true, false, false, false, false, false, false, false] rfl rfl (by kernel_rfl) (fun _ _ _ h => h) (Or.inr ⟨by rfl, rfl⟩) ?_ ?_
    rotate_left
    · simp only [Act.put, List.setIfInBounds_toArray, List.set_cons_zero, List.set_cons_succ, i64_w, i32_w]
      rfl
    refine pure_ (i := 10) (N := some 47) (v := undef) (a' := ?_) #[true, true, true, true, true, true, true, true, true, true, true, false, false, false, false, false, false] rfl rfl (by kernel_rfl) (fun _ _ _ h => h) (Or.inr ⟨by rfl, rfl⟩) ?_ ?_
    rotate_left
    · simp only [Act.put, List.setIfInBounds_toArray, List.set_cons_zero, List.set_cons_succ, i64_w, i32_w]
      rfl
    refine pure_ (i := 11) (N := some 48) (v := ?_) (a' := ?_) #[true, true, true, true, true, true, true, true, true, true, true, true, false, false, false, false, false] rfl rfl (by kernel_rfl) (fun _ _ _ h => h) (Or.inl ⟨by rfl, ?_⟩) ?_ ?_
    rotate_left
    · intro w'
      go_simp
      with_reducible rfl
    rotate_left
    · simp only [Act.put, List.setIfInBounds_toArray, List.set_cons_zero, List.set_cons_succ, i64_w, i32_w]
      rfl
    refine pure_ (i := 12) (N := some 49) (v := ?_) (a' := ?_) #[true, true, true, true, true, true, true, true, true, true, true, true, true, false, false, false, false] rfl rfl (by kernel_rfl) (fun _ _ _ h => h) (Or.inl ⟨by rfl, ?_⟩) ?_ ?_
    rotate_left
    · intro w'
      go_simp
      with_reducible rfl
    rotate_left
    · simp only [Act.put, List.setIfInBounds_toArray, List.set_cons_zero, List.set_cons_succ, i64_w, i32_w]
      rfl
    refine pure_ (i := 13) (N := some 50) (v := undef) (a' := ?_) #[true, true, true, true, true, true, true, true, true, true, true, true, true, true, false, false, false] rfl rfl (by kernel_rfl) (fun _ _ _ h => h) (Or.inr ⟨by rfl, rfl⟩) ?_ ?_
    rotate_left
    · simp only [Act.put, List.setIfInBounds_toArray, List.set_cons_zero, List.set_cons_succ, i64_w, i32_w]
      rfl
    refine pure_ (i := 14) (N := some 51) (v := undef) (a' := ?_) #[true, true, true, true, true, true, true, true, true, true, true, true, true, true, true, false, false] rfl rfl (by kernel_rfl) (fun _ _ _ h => h) (Or.inr ⟨by rfl, rfl⟩) ?_ ?_
    rotate_left
    · simp only [Act.put, List.setIfInBounds_toArray, List.set_cons_zero, List.set_cons_succ, i64_w, i32_w]
      rfl
    refine pure_ (i := 15) (N := some 52) (v := undef) (a' := ?_) #[true, true, true, true, true, true, true, true, true, true, true, true, true, true, true, true, false] rfl rfl (by kernel_rfl) (fun _ _ _ h => h) (Or.inr ⟨by rfl, rfl⟩) ?_ ?_
    rotate_left
    · simp only [Act.put, List.setIfInBounds_toArray, List.set_cons_zero, List.set_cons_succ, i64_w, i32_w]
      rfl
    refine pure_ (i := 16) (N := some 53) (v := ?_) (a' := ?_) #[true, true, true, true, true, true, true, true, true, true, true, true, true, true, true, true, true] rfl rfl (by kernel_rfl) (fun _ _ _ h => h) (Or.inl ⟨by rfl, ?_⟩) ?_ ?_
    rotate_left
    · intro w'
      go_simp
      with_reducible rfl
    rotate_left
    · simp only [Act.put, List.setIfInBounds_toArray, List.set_cons_zero, List.set_cons_succ, i64_w, i32_w]
      rfl
    refine done_ (by kernel_rfl) ?_
    dsimp only [NoP]
    clear hHeld
    go_wp2_with (fail)
    refine ⟨by simp, .inl ⟨_, _, rfl, run_takeDeferred hKd, ?_⟩⟩
    refine ⟨_, results_tmp2 rfl _ _ _, rfl, ?_⟩
    rw [← hg]
    exact hbw.grown (grownBy_putObj' _ D _) hbw.size (fun k e => by cases e; exact hDw)
end Go.Proofs.Yticagpejankjcaa.Db
