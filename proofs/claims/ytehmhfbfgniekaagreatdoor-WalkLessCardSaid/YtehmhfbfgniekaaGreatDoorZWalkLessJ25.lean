/- Joined texts: WkOpen. No condition but what stands in each. -/
import Derived.Test.YtehmhfbfgniekaaGreatDoorZWalkLessJ24
import Derived.Test.YtehmhfbfgniekaaGreatDoorZWalkLessJ22
namespace Go.Proofs.YtehmhfbfgniekaaGreatDoor.Wk
set_option linter.unusedVariables false
set_option linter.unusedSimpArgs false
set_option maxRecDepth 100000
open Go Go.RowKit Go.ChangeShapes Go.WideShapes Go.Deep Go.Joins Go.Proofs.YtehmhfbfgniekaaGreatDoorW.PrintWords Go.Proofs.YtehmhfbfgniekaaGreatDoorW.PrintLast Go.Proofs.YtehmhfbfgniekaaGreatDoorW.PrintMore Ob PObBase PObDoc PWkB
def IsHelds (w : World) (a : Option Addr) (len cap : Nat) (l : List Hd) : Prop :=
  (a = none ∧ len = 0 ∧ cap = 0 ∧ l = []) ∨
  ∃ x, a = some x ∧ len ≤ cap ∧ cap ≤ maxLen ∧ l.length = len ∧ ∀ i r, l[i]? = some r → w.cell? (x.add (i * 3 + 0)) = some (.string r.f0) ∧ w.cell? (x.add (i * 3 + 1)) = some (.int .i64 r.f1.f0) ∧ w.cell? (x.add (i * 3 + 2)) = some (.string r.f1.f1)
section
variable {H : Type} {enc : TypeId × Value → H} {w : World} {base : Nat} {spare : Nat → Bool} {held : Bool}
theorem open_held {fuel : Nat} {cs : List Value} {x : DataW H × List MemPlace} (hl : cs.length = 3) (h : DataW.trod enc Tryz.prog w base spare held fuel 49 cs = some x) : ∃ r : Hd, cs = [.string r.f0, .int .i64 r.f1.f0, .string r.f1.f1] := by
  match cs, hl with
  | [c0, c1, c2], _ =>
    obtain ⟨ys, n', hn', hy, hlen, hyl, hf⟩ := DataW.trod_struct Tryz.underlying49 h
    have k1 : Tryz.prog.cellsOf 9 = 1 := by kernel_rfl
    have k2 : Tryz.prog.cellsOf 30 = 2 := by kernel_rfl
    have k3 : Tryz.prog.cellsOf 3 = 1 := by kernel_rfl
    have f0 : DataW.trod enc Tryz.prog w base spare held n' 9 (List.take (Tryz.prog.cellsOf 9) (List.drop 0 [c0, c1, c2])) = ys[0]? := hf 0 _ rfl
    have f1 : DataW.trod enc Tryz.prog w base spare held n' 30 (List.take (Tryz.prog.cellsOf 30) (List.drop 1 [c0, c1, c2])) = ys[1]? := hf 1 _ rfl
    rw [k1] at f0
    rw [k2] at f1
    have l2 : ys.length = 2 := hyl
    have y0 : ys[0]? = some (ys[0]'(by omega)) := List.getElem?_eq_getElem _
    have y1 : ys[1]? = some (ys[1]'(by omega)) := List.getElem?_eq_getElem _
    have g0 : DataW.trod enc Tryz.prog w base spare held n' 9 [c0] = some (ys[0]'(by omega)) := f0.trans y0
    have g1 : DataW.trod enc Tryz.prog w base spare held n' 30 [c1, c2] = some (ys[1]'(by omega)) := f1.trans y1
    obtain ⟨zs, n2, hn2, hz, hlen2, hzl, hg⟩ := DataW.trod_struct Tryz.underlying30 g1
    have f2 : DataW.trod enc Tryz.prog w base spare held n2 3 (List.take (Tryz.prog.cellsOf 3) (List.drop 0 [c1, c2])) = zs[0]? := hg 0 _ rfl
    have f3 : DataW.trod enc Tryz.prog w base spare held n2 9 (List.take (Tryz.prog.cellsOf 9) (List.drop 1 [c1, c2])) = zs[1]? := hg 1 _ rfl
    rw [k3] at f2
    rw [k1] at f3
    have l3 : zs.length = 2 := hzl
    have z0 : zs[0]? = some (zs[0]'(by omega)) := List.getElem?_eq_getElem _
    have z1 : zs[1]? = some (zs[1]'(by omega)) := List.getElem?_eq_getElem _
    have g2 : DataW.trod enc Tryz.prog w base spare held n2 3 [c1] = some (zs[0]'(by omega)) := f2.trans z0
    have g3 : DataW.trod enc Tryz.prog w base spare held n2 9 [c2] = some (zs[1]'(by omega)) := f3.trans z1
    obtain ⟨s0, e0, _⟩ := DataW.trod_string Tryz.underlying9 g0
    obtain ⟨s1, e1, _⟩ := DataW.trod_int Tryz.underlying3 g2
    obtain ⟨s2, e2, _⟩ := DataW.trod_string Tryz.underlying9 g3
    injection e0 with e0 _
    injection e1 with e1 _
    injection e2 with e2 _
    subst e0 e1 e2
    exact ⟨⟨s0, ⟨s1, s2⟩⟩, rfl⟩
theorem open_helds {v : Value} {fuel : Nat} {x : DataW H × List MemPlace} (h : DataW.trod enc Tryz.prog w base spare held fuel 22 [v] = some x) (hw : ∀ z ∈ DataW.weights Tryz.prog 22 x.1, z ≤ reachBytes) : ∃ a len cap l, v = .slice a len cap ∧ IsHelds w a len cap l ∧ len ≤ 4000000000000 := by
  rcases open_slice Tryz.underlying22 h with ⟨hcs, _⟩ | ⟨a, len, cap, m, n, D, Pl, hcs, hb, hl, hm, hmm, hx, hi⟩
  · injection hcs with hcs _
    exact ⟨_, _, _, [], hcs, .inl ⟨rfl, rfl, rfl, rfl⟩, Nat.zero_le _⟩
  · injection hcs with hcs _
    have hlm : len ≤ m := by rw [hmm]; split <;> omega
    have hz : len ≤ 4000000000000 := by
      rw [hx] at hw
      have h16 : Tryz.prog.bytesOf 49 = 40 := by kernel_rfl
      have := hw ((len + (m - len)) * 40) (by
        unfold DataW.weights
        rw [Tryz.underlying22]
        simp only [List.length_map, List.length_range, h16]
        exact List.mem_cons_self)
      unfold reachBytes at this
      omega
    have k3 : Tryz.prog.cellsOf 49 = 3 := by kernel_rfl
    obtain ⟨l, hll, hp⟩ := choose_list (p := fun i (r : Hd) => w.cell? (a.add (i * 3 + 0)) = some (.string r.f0) ∧ w.cell? (a.add (i * 3 + 1)) = some (.int .i64 r.f1.f0) ∧ w.cell? (a.add (i * 3 + 2)) = some (.string r.f1.f1)) len (fun i hil => by
      obtain ⟨cs', hc, ht'⟩ := hi i (by omega)
      rw [k3] at hc
      obtain ⟨_, hcl, hat⟩ := World.cells?_some hc
      obtain ⟨r, rfl⟩ := open_held hcl ht'
      refine ⟨r, ?_, ?_, ?_⟩
      · rw [← Go.Deep.add_add]; exact hat 0 (by omega)
      · rw [← Go.Deep.add_add]; exact hat 1 (by omega)
      · rw [← Go.Deep.add_add]; exact hat 2 (by omega))
    exact ⟨_, _, _, l, hcs, .inr ⟨a, rfl, hl, hm, hll, hp⟩, hz⟩
end
theorem of_helds {w : World} {a : Option Addr} {len cap : Nat} {l : List Hd} (h : IsHelds w a len cap l) : l.length = len ∧ len ≤ cap ∧ Kd.C k49 w a len l := by
  rcases h with ⟨rfl, rfl, rfl, rfl⟩ | ⟨x, rfl, hl, hm, hz, hc⟩
  · exact ⟨rfl, Nat.le_refl _, Kd.C_nil _ _⟩
  · unfold maxLen at hm
    refine ⟨hz, hl, hz, by omega, fun _ => ⟨x, rfl, fun j p hj => ⟨_, rfl, k49_mk w p, fun i u hu => ?_⟩⟩⟩
    obtain ⟨c0, c1, c2⟩ := hc j p hj
    match i, hu with
    | 0, hu => cases hu; exact c0
    | 1, hu => cases hu; exact c1
    | 2, hu => cases hu; exact c2
end Go.Proofs.YtehmhfbfgniekaaGreatDoor.Wk
