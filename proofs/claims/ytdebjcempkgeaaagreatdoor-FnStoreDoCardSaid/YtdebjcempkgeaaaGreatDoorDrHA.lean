/-
  The hall that the reference draws: what is known while it is drawn.
-/
import Derived.Test.YtdebjcempkgeaaaGreatDoorSlA
import Derived.Test.YtdebjcempkgeaaaGreatDoorDoAll
import Derived.Test.YtdebjcempkgeaaaGreatDoorHallN
import Derived.Test.YtdebjcempkgeaaaGreatDoorDrHP
import Derived.Test.YtdebjcempkgeaaaGreatDoorHallF
import Derived.Test.YtdebjcempkgeaaaGreatDoorRd
import Derived.Test.YtdebjcempkgeaaaGreatDoorDrNeed
import Derived.Test.YtdebjcempkgeaaaGreatDoorWpI
namespace Go.Proofs.YtdebjcempkgeaaaGreatDoor
open Go.ChangeShapes Go.WideShapes Go.ChangeAt Go.RowKit

/-- The draw is under way: the reader, the hall (block M), its cells (block G), the place of the answer (block Q). -/
structure DH (w0 w wr : World) (R : Nat) (A : Option Addr) (n c : Nat) (bs : List Int) (K Q M : Nat) (wd dp : Int) (G m d : Nat) (g : List Int) : Prop where
  rd : Rd w0 wr R A n c bs K
  fr : Fr1 R w wr
  sq : Whole wr Q 25 [.int .i64 0, .int .i64 0, .slice none 0 0]
  sm : Whole wr M 25 [.int .i64 wd, .int .i64 dp, .slice (some ⟨G, 0, none⟩) m d]
  own : wr.ownsRow w.heap.size 3 1 (.slice (some ⟨G, 0, none⟩) m d) m (g.map (Value.int .i64))
  wQ : w.heap.size ≤ Q
  RQ : R < w.heap.size
  QM : Q < M
  GQ : G ≠ Q
  GM : G ≠ M
theorem DH.go {w0 w wr w' : World} {R : Nat} {A : Option Addr} {n c : Nat} {bs : List Int} {K K' Q M : Nat} {wd dp : Int} {G m d : Nat} {g : List Int} (h : DH w0 w wr R A n c bs K Q M wd dp G m d g)
    (hr : Rd w0 w' R A n c bs K') (hf : Fr1 R wr w') : DH w0 w w' R A n c bs K' Q M wd dp G m d g := by
  have hRQ := h.RQ; have hwQ := h.wQ; have hQM := h.QM
  exact ⟨hr, h.fr.trans hf, h.sq.fr1 hf (by omega), h.sm.fr1 hf (by omega), ownsRow_fr1 h.own hf hRQ, hwQ, hRQ, hQM, h.GQ, h.GM⟩
theorem DH.below {w0 w wr w' : World} {R : Nat} {A : Option Addr} {n c : Nat} {bs : List Int} {K Q M : Nat} {wd dp : Int} {G m d : Nat} {g : List Int} (h : DH w0 w wr R A n c bs K Q M wd dp G m d g)
    (hb : Below wr.heap.size wr w') : DH w0 w w' R A n c bs K Q M wd dp G m d g :=
  ⟨h.rd.below hb, h.fr.below hb, h.sq.below hb, h.sm.below hb, own_keep h.own hb, h.wQ, h.RQ, h.QM, h.GQ, h.GM⟩
theorem DH.more {w0 w wr : World} {R : Nat} {A : Option Addr} {n c : Nat} {bs : List Int} {K K' Q M : Nat} {wd dp : Int} {G m d : Nat} {g : List Int} (h : DH w0 w wr R A n c bs K Q M wd dp G m d g)
    (hk : K ≤ K') : DH w0 w wr R A n c bs K' Q M wd dp G m d g :=
  ⟨h.rd.more hk, h.fr, h.sq, h.sm, h.own, h.wQ, h.RQ, h.QM, h.GQ, h.GM⟩
theorem DH.put {w0 w wr : World} {R : Nat} {A : Option Addr} {n c : Nat} {bs : List Int} {K Q M : Nat} {wd dp : Int} {G m d : Nat} {g : List Int} (h : DH w0 w wr R A n c bs K Q M wd dp G m d g)
    (i : Nat) (z : Int) : DH w0 w (wr.setCell ⟨G, i, none⟩ (.int .i64 z)) R A n c bs K Q M wd dp G m d (g.set i z) := by
  have hG := h.own.lt G rfl
  have hRQ := h.RQ; have hwQ := h.wQ; have hQM := h.QM; have hGQ := h.GQ; have hGM := h.GM
  exact ⟨h.rd.set (p := ⟨G, i, none⟩) (by show R < G; omega) _, h.fr.far (p := ⟨G, i, none⟩) hG.1 _, h.sq.far (p := ⟨G, i, none⟩) (by show Q ≠ G; omega) _, h.sm.far (p := ⟨G, i, none⟩) (by show M ≠ G; omega) _, own_set h.own z, hwQ, hRQ, hQM, hGQ, hGM⟩
theorem ownS_block {w : World} {base n sz : Nat} {A : Option Addr} {c : Nat} {e : TypeId} {vs : List Value} (h : w.ownsRow base e sz (.slice A n c) n vs) (hn : 0 < n) : ∃ g, A = some ⟨g, 0, none⟩ := by
  rcases h.2 with ⟨hv, h0⟩ | ⟨g', cap, cur, hv, _⟩
  · omega
  · injection hv with e1 _ _; exact ⟨g', e1⟩
/-- The call answers some hall, whose cells it has made itself; the reader has gone on. -/
def DrawH (w0 w : World) (R : Nat) (A : Option Addr) (n c : Nat) (bs : List Int) (K : Nat) (e : Ending) (w' : World) : Prop :=
  ∃ (wd dp : Int) (G m d : Nat) (g : List Int), e = .returned (.agg #[.int .i64 wd, .int .i64 dp, .slice (some ⟨G, 0, none⟩) m d]) ∧ w'.ownsRow w.heap.size 3 1 (.slice (some ⟨G, 0, none⟩) m d) m (g.map (Value.int .i64)) ∧ 4 ≤ m ∧ m ≤ 13 ∧ Rd w0 w' R A n c bs K ∧ Fr1 R w w'
theorem DH.hall {w0 w wr : World} {R : Nat} {A : Option Addr} {n c : Nat} {bs : List Int} {K Q M : Nat} {W D G m d : Nat} {g : List Int} (h : DH w0 w wr R A n c bs K Q M W D G m d g) (S : Shp W D m) (ok : hallB W D g = true) : HallAt wr W D m (some ⟨G, 0, none⟩) d g := hallAt_own S ok h.own

/-- A slide of a drawn hall leaves it valid. -/
theorem slid_ok {W D n : Nat} {g : List Int} {p q : Nat} (hg : g.length = n) (hp : p < n) (hq : q < n) (ok : hallB W D g = true) : hallB W D (slid W g p q) = true := by
  unfold slid
  by_cases h : mayB W g p q = true
  · rw [if_pos h]
    obtain ⟨-, h1, h2, -⟩ := may_parts h
    have e1 : g[q]? = some 0 := by rw [List.getElem?_eq_getElem (by omega)]; rw [List.getD_eq_getElem?_getD, List.getElem?_eq_getElem (by omega)] at h2; simpa using h2
    have e2 : g[p]? = some (g.getD p 0) := by rw [List.getD_eq_getElem?_getD, List.getElem?_eq_getElem (by omega)]; rfl
    exact hallB_perm (mv_perm e1 e2).symm ok
  · rw [if_neg h]; exact ok
/-- A new hall's block beside the draw. -/
theorem DH.alloc {w0 w wr : World} {R : Nat} {A : Option Addr} {n c : Nat} {bs : List Int} {K Q M : Nat} {wd dp : Int} {G m d : Nat} {g : List Int} {SA : Option Addr} {sm : Nat} {sl : List (Nat × Nat)} (h : DH w0 w wr R A n c bs K Q M wd dp G m d g) (hs : SlidesAt wr SA sm sl) :
    ∃ N wn, wr.alloc (.cells #[.int .i64 0, .int .i64 0, .slice none 0 0] 25) = wn ∧ wr.heap.size = N ∧ Hid (DH w0 w wn R A n c bs K Q M wd dp G m d g) ∧ SlidesAt wn SA sm sl ∧ Whole wn N 25 [.int .i64 0, .int .i64 0, .slice none 0 0] ∧ M < N ∧ (∀ x, SA = some x → 0 < sm → x.block < N) ∧ Below wr.heap.size wr wn := by
  have hb : Below wr.heap.size wr (wr.alloc (.cells #[.int .i64 0, .int .i64 0, .slice none 0 0] 25)) := (Below.refl _ _).alloc (Nat.le_refl _) _
  exact ⟨_, _, rfl, rfl, Lib.hid (h.below hb), hs.below hb, Whole.new _ _ _, h.sm.lt, fun x hx h0 => by obtain ⟨_, b, off, _, hA, hlt, _⟩ := hs.get h0; rw [hx] at hA; injection hA with hA; rw [hA]; exact hlt, hb⟩
theorem DH.alloc2 {w0 w wr : World} {R : Nat} {A : Option Addr} {n c : Nat} {bs : List Int} {K Q M : Nat} {wd dp : Int} {G m d : Nat} {g : List Int} (h : DH w0 w wr R A n c bs K Q M wd dp G m d g) :
    ∃ N wn, wr.alloc (.cells #[.int .i64 (-1), .int .i64 100] 3) = wn ∧ wr.heap.size = N ∧ Hid (DH w0 w wn R A n c bs K Q M wd dp G m d g) ∧ Whole wn N 3 [.int .i64 (-1), .int .i64 100] ∧ M < N := by
  have hb : Below wr.heap.size wr (wr.alloc (.cells #[.int .i64 (-1), .int .i64 100] 3)) := (Below.refl _ _).alloc (Nat.le_refl _) _
  exact ⟨_, _, rfl, rfl, Lib.hid (h.below hb), Whole.new _ _ _, h.sm.lt⟩
theorem SlidesAt.fr1 {w w' : World} {R : Nat} {SG m : Nat} {l : List (Nat × Nat)} (h : SlidesAt w (some ⟨SG, 0, none⟩) m l) (hf : Fr1 R w w') (hR : R ≠ SG) : SlidesAt w' (some ⟨SG, 0, none⟩) m l := by
  refine ⟨h.len, fun k r hr => ?_⟩
  obtain ⟨b, off, hA, hlt, hl, hc⟩ := SlAt.row h k r hr
  injection hA with hA; injection hA with e1 e2; subst e1; subst e2
  refine ⟨SG, 0, rfl, Nat.lt_of_lt_of_le hlt hf.size, hl, fun j v hv => ?_⟩
  have h1 := hf.block SG hlt (Ne.symm hR)
  rw [← hc j v hv]
  unfold World.cell?
  simp only [h1]
theorem SlidesAt.far {w : World} {SG m : Nat} {l : List (Nat × Nat)} (h : SlidesAt w (some ⟨SG, 0, none⟩) m l) {p : Addr} (hp : SG ≠ p.block) (v : Value) : SlidesAt (w.setCell p v) (some ⟨SG, 0, none⟩) m l := by
  refine ⟨h.len, fun k r hr => ?_⟩
  obtain ⟨b, off, hA, hlt, hl, hc⟩ := SlAt.row h k r hr
  injection hA with hA; injection hA with e1 e2; subst e1; subst e2
  refine ⟨SG, 0, rfl, by simp [World.setCell]; exact hlt, hl, fun j u hu => ?_⟩
  have h1 := Below.heap_setCell w p v SG hp
  rw [← hc j u hu]
  unfold World.cell?
  simp only [h1]
/-- The slid hall takes the old one's place. -/
theorem DH.slid {w0 w wr : World} {R : Nat} {A : Option Addr} {n c : Nat} {bs : List Int} {K Q M : Nat} {wd dp : Int} {G m d : Nat} {g : List Int} (h : DH w0 w wr R A n c bs K Q M wd dp G m d g) {N G3 c3 : Nat} {g3 : List Int} (hMN : M < N)
    (hO : wr.ownsRow (M + 1) 3 1 (.slice (some ⟨G3, 0, none⟩) m c3) m (g3.map (Value.int .i64))) (hGN : G3 ≠ N) :
    DH w0 w ((((((wr.setCell ⟨N, 0, none⟩ (.int .i64 wd)).setCell ⟨N, 1, none⟩ (.int .i64 dp)).setCell ⟨N, 2, none⟩ (.slice (some ⟨G3, 0, none⟩) m c3)).setCell ⟨M, 0, none⟩ (.int .i64 wd)).setCell ⟨M, 1, none⟩ (.int .i64 dp)).setCell ⟨M, 2, none⟩ (.slice (some ⟨G3, 0, none⟩) m c3)) R A n c bs K Q M wd dp G3 m c3 g3 := by
  have hG := hO.lt G3 rfl
  have hRQ := h.RQ; have hwQ := h.wQ; have hQM := h.QM
  have hr := (((((h.rd.set (p := ⟨N, 0, none⟩) (by show R < N; omega) (.int .i64 wd)).set (p := ⟨N, 1, none⟩) (by show R < N; omega) (.int .i64 dp)).set (p := ⟨N, 2, none⟩) (by show R < N; omega) (.slice (some ⟨G3, 0, none⟩) m c3)).set (p := ⟨M, 0, none⟩) (by show R < M; omega) (.int .i64 wd)).set (p := ⟨M, 1, none⟩) (by show R < M; omega) (.int .i64 dp)).set (p := ⟨M, 2, none⟩) (by show R < M; omega) (.slice (some ⟨G3, 0, none⟩) m c3)
  have hf := (((((h.fr.far (p := ⟨N, 0, none⟩) (by show w.heap.size ≤ N; omega) (.int .i64 wd)).far (p := ⟨N, 1, none⟩) (by show w.heap.size ≤ N; omega) (.int .i64 dp)).far (p := ⟨N, 2, none⟩) (by show w.heap.size ≤ N; omega) (.slice (some ⟨G3, 0, none⟩) m c3)).far (p := ⟨M, 0, none⟩) (by show w.heap.size ≤ M; omega) (.int .i64 wd)).far (p := ⟨M, 1, none⟩) (by show w.heap.size ≤ M; omega) (.int .i64 dp)).far (p := ⟨M, 2, none⟩) (by show w.heap.size ≤ M; omega) (.slice (some ⟨G3, 0, none⟩) m c3)
  have hq := (((((h.sq.far (p := ⟨N, 0, none⟩) (by show Q ≠ N; omega) (.int .i64 wd)).far (p := ⟨N, 1, none⟩) (by show Q ≠ N; omega) (.int .i64 dp)).far (p := ⟨N, 2, none⟩) (by show Q ≠ N; omega) (.slice (some ⟨G3, 0, none⟩) m c3)).far (p := ⟨M, 0, none⟩) (by show Q ≠ M; omega) (.int .i64 wd)).far (p := ⟨M, 1, none⟩) (by show Q ≠ M; omega) (.int .i64 dp)).far (p := ⟨M, 2, none⟩) (by show Q ≠ M; omega) (.slice (some ⟨G3, 0, none⟩) m c3)
  have hm := (((((h.sm.far (p := ⟨N, 0, none⟩) (by show M ≠ N; omega) (.int .i64 wd)).far (p := ⟨N, 1, none⟩) (by show M ≠ N; omega) (.int .i64 dp)).far (p := ⟨N, 2, none⟩) (by show M ≠ N; omega) (.slice (some ⟨G3, 0, none⟩) m c3)).set_ 0 (.int .i64 wd)).set_ 1 (.int .i64 dp)).set_ 2 (.slice (some ⟨G3, 0, none⟩) m c3)
  have ho := own_off (own_off (own_off (own_off (own_off (own_off (Joins.ownsRow_le hO (base' := w.heap.size) (by omega)) (p := ⟨N, 0, none⟩) hGN (.int .i64 wd)) (p := ⟨N, 1, none⟩) hGN (.int .i64 dp)) (p := ⟨N, 2, none⟩) hGN (.slice (some ⟨G3, 0, none⟩) m c3)) (p := ⟨M, 0, none⟩) (by show G3 ≠ M; omega) (.int .i64 wd)) (p := ⟨M, 1, none⟩) (by show G3 ≠ M; omega) (.int .i64 dp)) (p := ⟨M, 2, none⟩) (by show G3 ≠ M; omega) (.slice (some ⟨G3, 0, none⟩) m c3)
  exact ⟨hr, hf, hq, hm, ho, hwQ, hRQ, hQM, by omega, by omega⟩
theorem wpList_moreH {ops : Array Oper} {rest : List Oper} {o : Oper} {a : Act} {Q : Exit → Act → World → Prop} {base : Nat} {wr : World} (hgd : o.guard = none) (s x : Operand)
    (ho : o.op = .call { callee := .builtin .append, args := #[s, x], argTypes := #[23, 23] })
    {v : Value} {n : Nat} {xs : List Int} (hbase : base ≤ wr.heap.size) (hown : wr.ownsRow base 3 1 v n (xs.map (Value.int .i64))) (z : Int) (hs : a.eval s = v)
    (hx : a.eval x = .slice (some ⟨wr.heap.size, 0, none⟩) 1 1) (hn : n ≤ 1048576)
    (h : ∀ g cap w', w'.ownsRow base 3 1 (.slice (some ⟨g, 0, none⟩) (n + 1) cap) (n + 1) ((xs ++ [z]).map (Value.int .i64)) → (wr.alloc (.cells #[.int .i64 z] 3)).grownBy w' v.ownBlock → (v.ownBlock = some g ∨ g = wr.heap.size + 1) → wpList Tryz.prog ops Q rest (a.put o.dst (.slice (some ⟨g, 0, none⟩) (n + 1) cap)) w') :
    wpList Tryz.prog ops Q (o :: rest) a (wr.alloc (.cells #[.int .i64 z] 3)) := by
  obtain ⟨i0, hi, hz0, hz1, hz2⟩ := info_parts int_info
  refine wpList_append_lies _ hgd s x 23 ho base 3 i0 (.int .i64 0) 1 8 Tryz.underlying23 hi hz0 hz1 hz2 rfl (by decide) v n _ hs (hown.alloc _) ⟨wr.heap.size, 0, none⟩ 1 1 [.int .i64 z] hx rfl (new_cells wr _ [.int .i64 z]) ?_ (by omega) (by unfold maxLen; omega) (by omega) (by simp; omega) (wr.heap.size + 1) (by simp) ?_
  · intro u hu
    simp at hu; subst hu; rfl
  intro g cap w' hown' hgrow hg _
  exact h g cap w' (by rw [List.map_append]; exact hown') hgrow hg
/-- The hall is wide as is said. -/
theorem DH.wide {w0 w wr : World} {R : Nat} {A : Option Addr} {n c : Nat} {bs : List Int} {K Q M : Nat} {wd dp : Int} {G m d : Nat} {g : List Int} (h : DH w0 w wr R A n c bs K Q M wd dp G m d g) (z : Int) :
    DH w0 w (wr.setCell ⟨M, 0, none⟩ (.int .i64 z)) R A n c bs K Q M z dp G m d g := by
  have hRQ := h.RQ; have hwQ := h.wQ; have hQM := h.QM
  exact ⟨h.rd.set (p := ⟨M, 0, none⟩) (by show R < M; omega) _, h.fr.far (p := ⟨M, 0, none⟩) (by show w.heap.size ≤ M; omega) _, h.sq.far (p := ⟨M, 0, none⟩) (by show Q ≠ M; omega) _, h.sm.set_ 0 _, own_off h.own (p := ⟨M, 0, none⟩) (by show G ≠ M; exact h.GM) _, hwQ, hRQ, hQM, h.GQ, h.GM⟩
/-- One cell more. -/
theorem DH.grow {w0 w wr w' : World} {R : Nat} {A : Option Addr} {n c : Nat} {bs : List Int} {K Q M : Nat} {wd dp : Int} {G m d : Nat} {g : List Int} (h : DH w0 w wr R A n c bs K Q M wd dp G m d g) {o : Obj} {G2 m2 c2 : Nat} {g2 : List Int}
    (hg : (wr.alloc o).grownBy w' (some G)) (ho : w'.ownsRow w.heap.size 3 1 (.slice (some ⟨G2, 0, none⟩) m2 c2) m2 (g2.map (Value.int .i64))) (hG2 : some G = some G2 ∨ G2 = wr.heap.size + 1) :
    DH w0 w (w'.setCell ⟨M, 2, none⟩ (.slice (some ⟨G2, 0, none⟩) m2 c2)) R A n c bs K Q M wd dp G2 m2 c2 g2 ∧ Whole w' M 25 [.int .i64 wd, .int .i64 dp, .slice (some ⟨G, 0, none⟩) m d] := by
  have hG := h.own.lt G rfl
  have hRQ := h.RQ; have hwQ := h.wQ; have hQM := h.QM
  have hMl := h.sm.lt
  have hGQ := h.GQ
  have hGM := h.GM
  have hb : Below w.heap.size wr w' := ((Below.refl w.heap.size wr).alloc h.fr.size o).grown hg (by simp; have := h.fr.size; omega) (fun q hq => by injection hq with hq; omega)
  have h1 : G2 ≠ M := by rcases hG2 with h1 | h1; injection h1 with h1; omega; omega
  have h2 : G2 ≠ Q := by rcases hG2 with h1 | h1; injection h1 with h1; omega; omega
  have hm := (h.sm.alloc o).grow hg (by intro e; injection e with e; exact hGM e)
  exact ⟨⟨(h.rd.belowB hb hRQ).set (p := ⟨M, 2, none⟩) (by show R < M; omega) _, (h.fr.belowB hb (Nat.le_refl _)).far (p := ⟨M, 2, none⟩) (by show w.heap.size ≤ M; omega) _, ((h.sq.alloc o).grow hg (by intro e; injection e with e; exact hGQ e)).far (p := ⟨M, 2, none⟩) (by show Q ≠ M; omega) _, hm.set_ 2 _, own_off ho (p := ⟨M, 2, none⟩) h1 _, hwQ, hRQ, hQM, h2, h1⟩, hm⟩
/-- The answer is laid at its place. -/
theorem DH.fin {w0 w wr : World} {R : Nat} {A : Option Addr} {n c : Nat} {bs : List Int} {K K' Q M : Nat} {wd dp : Int} {G m d : Nat} {g : List Int} (h : DH w0 w wr R A n c bs K Q M wd dp G m d g) (h4 : 4 ≤ m) (h13 : m ≤ 13) (hk : K ≤ K') :
    Whole (((wr.setCell ⟨Q, 0, none⟩ (.int .i64 wd)).setCell ⟨Q, 1, none⟩ (.int .i64 dp)).setCell ⟨Q, 2, none⟩ (.slice (some ⟨G, 0, none⟩) m d)) Q 25 [.int .i64 wd, .int .i64 dp, .slice (some ⟨G, 0, none⟩) m d]
    ∧ DrawH w0 w R A n c bs K' (.returned (.agg #[.int .i64 wd, .int .i64 dp, .slice (some ⟨G, 0, none⟩) m d])) (((wr.setCell ⟨Q, 0, none⟩ (.int .i64 wd)).setCell ⟨Q, 1, none⟩ (.int .i64 dp)).setCell ⟨Q, 2, none⟩ (.slice (some ⟨G, 0, none⟩) m d)) := by
  have hRQ := h.RQ; have hwQ := h.wQ; have hGQ := h.GQ
  refine ⟨((h.sq.set_ 0 _).set_ 1 _).set_ 2 _, wd, dp, G, m, d, g, rfl, ?_, h4, h13, ?_, ?_⟩
  · exact own_off (own_off (own_off h.own (p := ⟨Q, 0, none⟩) hGQ _) (p := ⟨Q, 1, none⟩) hGQ _) (p := ⟨Q, 2, none⟩) hGQ _
  · exact (((h.rd.more hk).set (p := ⟨Q, 0, none⟩) (by show R < Q; omega) _).set (p := ⟨Q, 1, none⟩) (by show R < Q; omega) _).set (p := ⟨Q, 2, none⟩) (by show R < Q; omega) _
  · exact ((h.fr.far (p := ⟨Q, 0, none⟩) hwQ _).far (p := ⟨Q, 1, none⟩) hwQ _).far (p := ⟨Q, 2, none⟩) hwQ _
end Go.Proofs.YtdebjcempkgeaaaGreatDoor
