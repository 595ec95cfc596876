/- Parts of the proof, one behind the other: RN2, RNA, RG1, RCO, RCP. -/
import Derived.Test.YtbommcakcmhalaaGreatDoorLM1
import Derived.Test.YtbommcakcmhalaaGreatDoorRows
import Derived.Test.YtbommcakcmhalaaGreatDoorProg
import Derived.Lib.BufferMore
import Derived.Lib.Builder
import Derived.Deep.RegionLaw
import Derived.Deep.QuietTactic
import Derived.BigQuiet
import Derived.Deep.LoopGhost
import Derived.Deep.DeepCutAuto
/- A tree that came in, read into plain data. -/
set_option linter.unusedVariables false
set_option linter.unusedSimpArgs false
set_option maxHeartbeats 4000000
set_option maxRecDepth 100000
namespace Go.Proofs.YtbommcakcmhalaaGreatDoor
open Go.RowKit Go.Redl Go.Deep
/-- The elements of a slice, one by one. -/
def Elems {H α : Type} (Φ : α -> List Value -> DataW H -> Prop) : List α -> List Value -> List (DataW H) -> Prop
 | [], css, ds => css = [] /\ ds = []
 | y :: ys, css, ds => ∃ c cs d ds', css = c ++ cs /\ ds = d :: ds' /\ Φ y c d /\ Elems Φ ys cs ds'
theorem elems_of {H α : Type} {enc : TypeId × Value -> H} {P : Program} {W : World} {fuel : Nat} {e : TypeId} {sz : Nat} (Φ : α -> List Value -> DataW H -> Prop)
 (hΦ : ∀ cs x, DataW.trod enc P W 0 (fun _ => true) true fuel e cs = some x -> ∃ y, Φ y cs x.1) :
 ∀ (elems : List (DataW H × List MemPlace)) (a : Addr) (off : Nat), (∀ i, i < elems.length -> (W.cells? 0 (a.add (off + i * sz)) sz).bind (DataW.trod enc P W 0 (fun _ => true) true fuel e) = elems[i]?) ->
   ∃ ys css, Elems Φ ys css (elems.map (·.1)) /\ ys.length = elems.length /\ css.length = elems.length * sz /\ ∀ j u, css[j]? = some u -> W.cell? (a.add (off + j)) = some u
 | [], a, off, h => ⟨[], [], ⟨rfl, rfl⟩, rfl, by simp, by simp⟩
 | x :: elems, a, off, h => by
   have h0 := h 0 (by simp)
   simp only [Nat.zero_mul, Nat.add_zero, List.getElem?_cons_zero, Option.bind_eq_some_iff] at h0
   obtain ⟨c, hc, ht⟩ := h0
   obtain ⟨y, hy⟩ := hΦ c x ht
   obtain ⟨_, hcl, hcell⟩ := World.cells?_some hc
   obtain ⟨ys, css, h1, h2, h3, h4⟩ := elems_of Φ hΦ elems a (off + sz) (fun i hi => by
    have := h (i + 1) (by simpa using hi)
    rw [show off + (i + 1) * sz = off + sz + i * sz by rw [Nat.add_mul]; omega] at this
    simpa using this)
   refine ⟨y :: ys, c ++ css, ⟨c, css, x.1, elems.map (·.1), rfl, rfl, hy, h1⟩, by simp [h2], by simp [hcl, h3, Nat.add_mul]; omega, fun j u hj => ?_⟩
   rcases Nat.lt_or_ge j sz with hlt | hge
   . rw [List.getElem?_append_left (by omega)] at hj
     have := hcell j hlt
     rw [add_add, hj] at this
     exact this
   . rw [List.getElem?_append_right (by omega), hcl] at hj
     have := h4 _ _ hj
     rw [show off + sz + (j - sz) = off + j by omega] at this
     exact this
theorem Elems.one {H α : Type} {Φ : α -> List Value -> DataW H -> Prop} (h1 : ∀ y c d, Φ y c d -> ∀ u ∈ c, u.oneCell' = true) : ∀ {ys : List α} {css : List Value} {ds : List (DataW H)}, Elems Φ ys css ds -> ∀ u ∈ css, u.oneCell' = true
 | [], css, ds, h => by obtain ⟨rfl, -⟩ := h; simp
 | y :: ys, css, ds, h => by
   obtain ⟨c, cs, d, ds', rfl, rfl, hy, hr⟩ := h
   intro u hu
   rcases List.mem_append.1 hu with hu | hu
   . exact h1 y c d hy u hu
   . exact Elems.one h1 hr u hu
/-- A slice that came in: its elements read one by one. -/
theorem row_of_trod {H α : Type} {enc : TypeId × Value -> H} {P : Program} {W : World} {fuel : Nat} {t e : TypeId} {sz : Nat} (Φ : α -> List Value -> DataW H -> Prop) (ht : P.underlying t = some (.slice e)) (hs : P.cellsOf e = sz) (hpos : 0 < sz)
 (hΦ : ∀ m cs x, m < fuel -> DataW.trod enc P W 0 (fun _ => true) true m e cs = some x -> ∃ y, Φ y cs x.1) (h1 : ∀ y c d, Φ y c d -> ∀ u ∈ c, u.oneCell' = true)
 {cs : List Value} {x : DataW H × List MemPlace} (h : DataW.trod enc P W 0 (fun _ => true) true fuel t cs = some x) :
 ∃ a cap ys css ds, cs = [.slice a ys.length cap] /\ RowA W W.heap.size sz a ys.length cap css /\ Elems Φ ys css ds /\ (x.1 = .nil /\ ys = [] /\ ds = [] ∨ ∃ sp, x.1 = .slice ds sp) := by
 rcases DataW.trod_slice ht h with ⟨rfl, rfl⟩ | ⟨a, len, cap, elems, rest, n, rfl, rfl, rfl, hb, hl, hm, hel, hall, -, -⟩
 . exact ⟨none, 0, [], [], [], rfl, RowA.empty _ _ _, ⟨rfl, rfl⟩, .inl ⟨rfl, rfl, rfl⟩⟩
 . rw [hs] at hall
   obtain ⟨ys, css, g1, g2, g3, g4⟩ := elems_of (fuel := n) Φ (fun cs x hx => hΦ n cs x (Nat.lt_succ_self n) hx) elems a 0 (fun i hi => by
    have := hall i (by omega)
    rw [Nat.zero_add]; exact this)
   have hyl : ys.length = len := by omega
   subst hyl
   refine ⟨some a, cap, ys, css, elems.map (·.1), rfl, ⟨by rw [g3, hel], hl, hm, Elems.one h1 g1, (fun h => by cases h), fun hne => ?_⟩, g1, .inr ⟨_, rfl⟩⟩
   have hpos' : 0 < css.length := List.length_pos_iff.2 hne
   have h0 := g4 0 _ (List.getElem?_eq_getElem hpos')
   obtain ⟨b, off, spot⟩ := a
   have hspot : spot = none := by simpa [Addr.add] using World.cell?_spot h0
   subst hspot
   refine ⟨b, off, rfl, ?_, fun j u hj => ?_⟩
   . have := World.block_lt_of_cell? W _ h0
     simpa [addr_add] using this
   . have := g4 j u hj
     rw [Nat.zero_add, addr_add] at this
     exact this
theorem list_string (s : ByteArray) : (⟨s.data.toList.toArray⟩ : ByteArray) = s := by cases s; simp
/-- A property that came in. -/
def PropΦ {H : Type} (p : PropD) (cs : List Value) (d : DataW H) : Prop := cs = [.string ⟨p.1.toArray⟩, .string ⟨p.2.toArray⟩] /\ 2 + p.1.length + p.2.length <= Rows.uptoBulk d
theorem prop_of_trod {H : Type} {enc : TypeId × Value -> H} {P : Program} {W : World} {fuel : Nat} {t : TypeId} {f0 f1 : Field} (hs : P.underlying t = some (.struct #[f0, f1])) (hc : P.cellsOf t = 2) (h0 : P.underlying f0.type = some .string) (h1 : P.underlying f1.type = some .string)
 (c0 : P.cellsOf f0.type = 1) (c1 : P.cellsOf f1.type = 1) (o0 : f0.offset = 0) (o1 : f1.offset = 1) {cs : List Value} {x : DataW H × List MemPlace} (h : DataW.trod enc P W 0 (fun _ => true) true fuel t cs = some x) : ∃ p, PropΦ p cs x.1 := by
 obtain ⟨xs, n, rfl, rfl, hl, hx, hf⟩ := DataW.trod_struct hs h
 rw [hc] at hl
 match xs, hx, cs, hl with
 | [y0, y1], _, [v0, v1], _ =>
   have g0 := hf 0 f0 rfl
   have g1 := hf 1 f1 rfl
   simp [o0, o1, c0, c1] at g0 g1
   obtain ⟨s0, e0, rfl, m0⟩ := DataW.trod_string h0 g0
   obtain ⟨s1, e1, rfl, m1⟩ := DataW.trod_string h1 g1
   simp at e0 e1
   subst e0; subst e1
   refine ⟨(s0.data.toList, s1.data.toList), ?_, ?_⟩
   . simp only [list_string]
   . simp [Rows.uptoBulk, Rows.uptoBulkAll]; omega
theorem elems_props {H : Type} : ∀ {ps : List PropD} {css : List Value} {ds : List (DataW H)}, Elems PropΦ ps css ds -> css = propCells ps /\ propsWt ps <= Rows.uptoBulkAll ds
 | [], css, ds, h => by obtain ⟨rfl, rfl⟩ := h; exact ⟨rfl, by simp [propsWt]⟩
 | p :: ps, css, ds, h => by
   obtain ⟨c, cs, d, ds', rfl, rfl, ⟨rfl, hb⟩, hr⟩ := h
   obtain ⟨rfl, h2⟩ := elems_props hr
   exact ⟨by simp [propCells], by simp only [propsWt, Rows.uptoBulkAll]; omega⟩
theorem elems_ints {H : Type} {k : IntKind} : ∀ {zs : List Int} {css : List Value} {ds : List (DataW H)}, Elems (fun z cs d => cs = [.int k z] /\ (Lit.int k z).wf = true /\ 1 <= Rows.uptoBulk (H := H) d) zs css ds ->
 css = zs.map (Value.int k) /\ (∀ z ∈ zs, (Lit.int k z).wf = true) /\ zs.length <= Rows.uptoBulkAll ds
 | [], css, ds, h => by obtain ⟨rfl, rfl⟩ := h; exact ⟨rfl, by simp, by simp⟩
 | z :: zs, css, ds, h => by
   obtain ⟨c, cs, d, ds', rfl, rfl, ⟨rfl, hw, hb⟩, hr⟩ := h
   obtain ⟨rfl, h2, h3⟩ := elems_ints hr
   exact ⟨by simp, by simpa using ⟨hw, h2⟩, by simp only [List.length_cons, Rows.uptoBulkAll]; omega⟩
def NodeΦ {H : Type} (W : World) (n : NodeD) (cs : List Value) (d : DataW H) : Prop := NodeC W W.heap.size n cs /\ n.wt <= Rows.uptoBulk d
theorem elems_kids {H : Type} {W : World} : ∀ {ks : List NodeD} {css : List Value} {ds : List (DataW H)}, Elems (NodeΦ W) ks css ds -> KidsC W W.heap.size ks css /\ wtAll ks <= Rows.uptoBulkAll ds
 | [], css, ds, h => by obtain ⟨rfl, rfl⟩ := h; exact ⟨by unfold KidsC; rfl, by simp [wtAll]⟩
 | k :: ks, css, ds, h => by
   obtain ⟨c, cs, d, ds', rfl, rfl, ⟨hk, hb⟩, hr⟩ := h
   obtain ⟨h2, h3⟩ := elems_kids hr
   exact ⟨by unfold KidsC; exact ⟨c, cs, rfl, hk, h2⟩, by simp only [wtAll, Rows.uptoBulkAll]; omega⟩
/-- What a slice's bulk says. -/
theorem slice_bulk {H : Type} {d : DataW H} {ds : List (DataW H)} {n : Nat} (h : d = .nil /\ n = 0 /\ ds = [] ∨ ∃ sp, d = .slice ds sp) : Rows.uptoBulkAll ds + 1 <= Rows.uptoBulk d := by
 rcases h with ⟨rfl, -, rfl⟩ | ⟨sp, rfl⟩
 . simp [Rows.uptoBulk, Rows.uptoBulkAll]
 . simp only [Rows.uptoBulk]; omega
theorem node_of_trod {H : Type} {enc : TypeId × Value -> H} {W : World} : ∀ (fuel : Nat) (cs : List Value) (x : DataW H × List MemPlace), DataW.trod enc Tryz.prog W 0 (fun _ => true) true fuel 35 cs = some x -> ∃ n, NodeΦ W n cs x.1 := by
 intro fuel
 induction fuel using Nat.strongRecOn with
 | _ fuel ih =>
   intro cs x h
   obtain ⟨xs, n, rfl, rfl, hl, hx, hf⟩ := DataW.trod_struct Tryz.underlying35 h
   rw [show Tryz.prog.cellsOf 35 = 4 by kernel_rfl] at hl
   match xs, hx, cs, hl with
   | [y0, y1, y2, y3], _, [v0, v1, v2, v3], _ =>
     have g0 := hf 0 _ rfl
     have g1 := hf 1 _ rfl
     have g2 := hf 2 _ rfl
     have g3 := hf 3 _ rfl
     have k0 : Tryz.prog.cellsOf 4 = 1 := by kernel_rfl
     have k1 : Tryz.prog.cellsOf 31 = 1 := by kernel_rfl
     have k2 : Tryz.prog.cellsOf 32 = 1 := by kernel_rfl
     have k3 : Tryz.prog.cellsOf 33 = 1 := by kernel_rfl
     simp [k0, k1, k2, k3] at g0 g1 g2 g3
     obtain ⟨b, e0, rfl⟩ := DataW.trod_bool Tryz.underlying4 g0
     obtain ⟨a1, c1, ps, css1, ds1, e1, r1, el1, s1⟩ := row_of_trod PropΦ Tryz.underlying31 (show Tryz.prog.cellsOf 141 = 2 by kernel_rfl) (by decide)
      (fun m cs x _ hx => prop_of_trod Tryz.underlying141 (by kernel_rfl) Tryz.underlying9 Tryz.underlying9 (by kernel_rfl) (by kernel_rfl) rfl rfl hx) (fun y c d hh => by obtain ⟨rfl, -⟩ := hh; intro u hu; simp at hu; rcases hu with rfl | rfl <;> rfl) g1
     obtain ⟨a2, c2, zs, css2, ds2, e2, r2, el2, s2⟩ := row_of_trod (fun z cs d => cs = [.int .i32 z] /\ (Lit.int .i32 z).wf = true /\ 1 <= Rows.uptoBulk (H := H) d) Tryz.underlying32 (show Tryz.prog.cellsOf 21 = 1 by kernel_rfl) (by decide)
      (fun m cs x _ hx => by
        obtain ⟨z, rfl, rfl, hw⟩ := DataW.trod_int Tryz.underlying21 hx
        exact ⟨z, rfl, hw, by simp [Rows.uptoBulk]⟩) (fun y c d hh => by obtain ⟨rfl, -⟩ := hh; intro u hu; simp at hu; subst hu; rfl) g2
     obtain ⟨a3, c3, ks, css3, ds3, e3, r3, el3, s3⟩ := row_of_trod (NodeΦ W) Tryz.underlying33 (show Tryz.prog.cellsOf 35 = 4 by kernel_rfl) (by decide)
      (fun m cs x hm hx => ih m (by omega) cs x hx) (fun y c d hh => hh.1.one) g3
     simp at e0 e1 e2 e3
     subst e0; subst e1; subst e2; subst e3
     obtain ⟨rfl, b1⟩ := elems_props el1
     obtain ⟨rfl, hw, b2⟩ := elems_ints el2
     obtain ⟨hk, b3⟩ := elems_kids el3
     refine ⟨.mk b ps zs ks, ?_, ?_⟩
     . unfold NodeC
       exact ⟨a1, c1, a2, c2, a3, c3, css3, rfl, r1, r2, hw, r3, hk⟩
     . have m1 := slice_bulk (n := 0) (s1.imp (fun h => ⟨h.1, rfl, h.2.2⟩) id)
       have m2 := slice_bulk (n := 0) (s2.imp (fun h => ⟨h.1, rfl, h.2.2⟩) id)
       have m3 := slice_bulk (n := 0) (s3.imp (fun h => ⟨h.1, rfl, h.2.2⟩) id)
       simp only [NodeD.wt, List.map_cons, List.map_nil, Rows.uptoBulk, Rows.uptoBulkAll]
       omega
end Go.Proofs.YtbommcakcmhalaaGreatDoor
/- A node's box in memory; rows and trees behind stores elsewhere. -/
namespace Go.Proofs.YtbommcakcmhalaaGreatDoor
open Go.RowKit Go.Redl
/-- A node's box. -/
def NodeAt (w : World) (N : Nat) (c0 c1 c2 c3 : Value) : Prop := w.heap[N]? = some (.cells #[c0, c1, c2, c3] 35 (0, 0))
theorem NodeAt.facts {w : World} {N : Nat} {c0 c1 c2 c3 : Value} (h : NodeAt w N c0 c1 c2 c3) :
 w.cell? ⟨N, 0, none⟩ = some c0 /\ w.cell? ⟨N, 1, none⟩ = some c1 /\ w.cell? ⟨N, 2, none⟩ = some c2 /\ w.cell? ⟨N, 3, none⟩ = some c3 /\
  (w.frozen? ⟨N, 0, none⟩ = false /\ w.frozen? ⟨N, 1, none⟩ = false /\ w.frozen? ⟨N, 2, none⟩ = false /\ w.frozen? ⟨N, 3, none⟩ = false) /\ N < w.heap.size := by
 refine ⟨?_, ?_, ?_, ?_, ⟨?_, ?_, ?_, ?_⟩, (Array.getElem?_eq_some_iff.1 h).1⟩
 all_goals first
  | exact Lib.frozen_of_heap h _
  | (rw [Lib.cell_of_heap h]; rfl)
theorem NodeAt.fresh (W : World) (c0 c1 c2 c3 : Value) : NodeAt (W.alloc (.cells #[c0, c1, c2, c3] 35)) W.heap.size c0 c1 c2 c3 := heap_alloc_new W _
theorem NodeAt.keep {w w' : World} {N : Nat} {c0 c1 c2 c3 : Value} (h : NodeAt w N c0 c1 c2 c3) (hb : Below (N + 1) w w') : NodeAt w' N c0 c1 c2 c3 := by
 unfold NodeAt; rw [hb.block N (by omega)]; exact h
theorem NodeAt.alloc {w : World} {N : Nat} {c0 c1 c2 c3 : Value} (h : NodeAt w N c0 c1 c2 c3) (o : Obj) : NodeAt (w.alloc o) N c0 c1 c2 c3 := by
 unfold NodeAt; rw [Lib.alloc_old _ _ _ (Array.getElem?_eq_some_iff.1 h).1]; exact h
theorem NodeAt.drew {w : World} {N : Nat} {c0 c1 c2 c3 : Value} (h : NodeAt w N c0 c1 c2 c3) : NodeAt w.drew N c0 c1 c2 c3 := h
theorem NodeAt.all {w : World} {N : Nat} {c0 c1 c2 c3 : Value} (h : NodeAt w N c0 c1 c2 c3) (d0 d1 d2 d3 : Value) : NodeAt ((((w.setCell ⟨N, 0, none⟩ d0).setCell ⟨N, 1, none⟩ d1).setCell ⟨N, 2, none⟩ d2).setCell ⟨N, 3, none⟩ d3) N d0 d1 d2 d3 := by
 have h0 := Lib.heap_setCell_same (i := 0) h d0
 have h1 := Lib.heap_setCell_same (i := 1) h0 d1
 have h2 := Lib.heap_setCell_same (i := 2) h1 d2
 exact Lib.heap_setCell_same (i := 3) h2 d3
theorem NodeAt.set {w : World} {N b o : Nat} {c0 c1 c2 c3 u : Value} (h : NodeAt w N c0 c1 c2 c3) (hne : N ≠ b) : NodeAt (w.setCell ⟨b, o, none⟩ u) N c0 c1 c2 c3 := by
 unfold NodeAt; rw [Below.heap_setCell _ _ _ _ hne]; exact h
theorem node_second (w : World) (o : Obj) (c0 c1 c2 c3 : Value) : NodeAt ((w.alloc o).alloc (.cells #[c0, c1, c2, c3] 35)) (w.heap.size + 1) c0 c1 c2 c3 := by
 have h := NodeAt.fresh (w.alloc o) c0 c1 c2 c3
 have e : (w.alloc o).heap.size = w.heap.size + 1 := by simp
 rwa [e] at h
theorem NodeAt.s0 {w : World} {M : Nat} {c0 c1 c2 c3 : Value} (h : NodeAt w M c0 c1 c2 c3) (u : Value) : NodeAt (w.setCell ⟨M, 0, none⟩ u) M u c1 c2 c3 := Lib.heap_setCell_same (i := 0) h _
theorem NodeAt.s1 {w : World} {M : Nat} {c0 c1 c2 c3 : Value} (h : NodeAt w M c0 c1 c2 c3) (u : Value) : NodeAt (w.setCell ⟨M, 1, none⟩ u) M c0 u c2 c3 := Lib.heap_setCell_same (i := 1) h _
theorem NodeAt.s2 {w : World} {M : Nat} {c0 c1 c2 c3 : Value} (h : NodeAt w M c0 c1 c2 c3) (u : Value) : NodeAt (w.setCell ⟨M, 2, none⟩ u) M c0 c1 u c3 := Lib.heap_setCell_same (i := 2) h _
theorem NodeAt.s3 {w : World} {M : Nat} {c0 c1 c2 c3 : Value} (h : NodeAt w M c0 c1 c2 c3) (u : Value) : NodeAt (w.setCell ⟨M, 3, none⟩ u) M c0 c1 c2 u := Lib.heap_setCell_same (i := 3) h _
theorem below_all {B : Nat} {W w : World} {N : Nat} (h : Below B W w) (hN : B <= N) (d0 d1 d2 d3 : Value) : Below B W ((((w.setCell ⟨N, 0, none⟩ d0).setCell ⟨N, 1, none⟩ d1).setCell ⟨N, 2, none⟩ d2).setCell ⟨N, 3, none⟩ d3) :=
 (((h.setCell (p := ⟨N, 0, none⟩) hN _).setCell (p := ⟨N, 1, none⟩) hN _).setCell (p := ⟨N, 2, none⟩) hN _).setCell (p := ⟨N, 3, none⟩) hN _
theorem rowq_set {w : World} {ok : Nat -> Prop} {sz n cap N o : Nat} {a : Option Addr} {cs : List Value} {u : Value} (h : RowQ w ok sz a n cap cs) (hne : ¬ ok N) : RowQ (w.setCell ⟨N, o, none⟩ u) ok sz a n cap cs :=
 h.keep (by simp [World.setCell]) (fun b hb _ => Below.heap_setCell w _ u b (fun e => hne (by rw [<- show b = N from e]; exact hb))) (fun _ hb _ => hb)
theorem nodeq_set {w : World} {ok : Nat -> Prop} {N o : Nat} {n : NodeD} {cs : List Value} {u : Value} (h : NodeQ w ok n cs) (hne : ¬ ok N) : NodeQ (w.setCell ⟨N, o, none⟩ u) ok n cs :=
 NodeQ.keep (by simp [World.setCell]) (fun b hb _ => Below.heap_setCell w _ u b (fun e => hne (by rw [<- show b = N from e]; exact hb))) (fun _ hb _ => hb) n cs h
theorem kidsq_set {w : World} {ok : Nat -> Prop} {N o : Nat} {n : List NodeD} {cs : List Value} {u : Value} (h : KidsQ w ok n cs) (hne : ¬ ok N) : KidsQ (w.setCell ⟨N, o, none⟩ u) ok n cs :=
 KidsQ.keep (by simp [World.setCell]) (fun b hb _ => Below.heap_setCell w _ u b (fun e => hne (by rw [<- show b = N from e]; exact hb))) (fun _ hb _ => hb) n cs h
theorem rowq_all {w : World} {ok : Nat -> Prop} {sz n cap N : Nat} {a : Option Addr} {cs : List Value} (h : RowQ w ok sz a n cap cs) (hne : ¬ ok N) (d0 d1 d2 d3 : Value) : RowQ ((((w.setCell ⟨N, 0, none⟩ d0).setCell ⟨N, 1, none⟩ d1).setCell ⟨N, 2, none⟩ d2).setCell ⟨N, 3, none⟩ d3) ok sz a n cap cs :=
 rowq_set (rowq_set (rowq_set (rowq_set h hne) hne) hne) hne
theorem kidsq_all {w : World} {ok : Nat -> Prop} {N : Nat} {ks : List NodeD} {cs : List Value} (h : KidsQ w ok ks cs) (hne : ¬ ok N) (d0 d1 d2 d3 : Value) : KidsQ ((((w.setCell ⟨N, 0, none⟩ d0).setCell ⟨N, 1, none⟩ d1).setCell ⟨N, 2, none⟩ d2).setCell ⟨N, 3, none⟩ d3) ok ks cs :=
 kidsq_set (kidsq_set (kidsq_set (kidsq_set h hne) hne) hne) hne
theorem rowq_own {w : World} {base e sz n : Nat} {v : Value} {cs : List Value} (h : w.ownsRow base e sz v n cs) (h1 : ∀ u ∈ cs, u.oneCell' = true) : ∃ a cap, v = .slice a n cap /\ RowQ w (fun b => base <= b) sz a n cap cs := by
 obtain ⟨a, cap, hv, hr⟩ := RowQ.of_own h h1
 exact ⟨a, cap, hv, hr.keep (Nat.le_refl _) (fun _ _ _ => rfl) (fun b hb _ => (h.lt b hb).1)⟩
/-- Nothing that was there is written but block N. -/
def Only (N : Nat) (w w' : World) : Prop := w.grownBy w' (some N)
theorem Only.refl (N : Nat) (w : World) : Only N w w := World.grownBy.refl w _
theorem Only.trans {N : Nat} {a b c : World} (h : Only N a b) (k : Only N b c) : Only N a c := grownBy_trans h k
theorem Only.below {N : Nat} {w w' : World} (h : Below w.heap.size w w') : Only N w w' := ⟨h.os, h.tape, h.output, h.size, fun i hi _ => h.block i hi⟩
theorem Only.set {N o : Nat} {a b : World} (h : Only N a b) (u : Value) : Only N a (b.setCell ⟨N, o, none⟩ u) := by
 refine grownBy_trans h ⟨rfl, rfl, rfl, by simp [World.setCell], fun i hi hne => Below.heap_setCell b ⟨N, o, none⟩ u i (fun e => hne (by rw [e]))⟩
theorem Only.drewN {N : Nat} {a b : World} (h : Only N a b) (q : Nat) : Only N a (b.drewN q) := h.trans (Only.below (below_drewN (Below.refl _ _) q))
theorem Only.then {N : Nat} {a b c : World} (h : Only N a b) (k : Below b.heap.size b c) : Only N a c := h.trans (Only.below k)
theorem Only.size {N : Nat} {w w' : World} (h : Only N w w') : w.heap.size <= w'.heap.size := World.grownBy.size h
theorem Only.to {N B : Nat} {w w' : World} (h : Only N w w') (hB : B <= N) (hw : B <= w.heap.size) : Below B w w' := ⟨h.os, h.tape, h.output, World.grownBy.size h, fun i hi => World.grownBy.block h i (by omega) (by simp; omega)⟩
theorem Only.grown {N : Nat} {w w1 w2 : World} {r : Option Nat} (h : Only N w w1) (hg : w1.grownBy w2 r) (hr : ∀ k, r = some k -> w.heap.size <= k) : Only N w w2 :=
 ⟨hg.os.trans h.os, hg.tape.trans h.tape, hg.output.trans h.output, Nat.le_trans h.size hg.size, fun i hi hne => (hg.block i (Nat.lt_of_lt_of_le hi h.size) (fun e => by have := hr i e.symm; omega)).trans (World.grownBy.block h i hi hne)⟩
theorem NodeAt.only {w w' : World} {M N : Nat} {c0 c1 c2 c3 : Value} (h : NodeAt w M c0 c1 c2 c3) (ho : Only N w w') (hne : M ≠ N) : NodeAt w' M c0 c1 c2 c3 := by
 unfold NodeAt
 rw [World.grownBy.block ho M (Array.getElem?_eq_some_iff.1 h).1 (by simpa using hne)]
 exact h
theorem Only.setO {N M o : Nat} {a b : World} (h : Only N a b) (hM : a.heap.size <= M) (u : Value) : Only N a (b.setCell ⟨M, o, none⟩ u) :=
 Only.grown h (r := some M) ⟨rfl, rfl, rfl, by simp [World.setCell], fun i hi hne => Below.heap_setCell b ⟨M, o, none⟩ u i (fun e => hne (by rw [e]))⟩ (fun k hk => by injection hk with e; omega)
theorem Only.all {N M : Nat} {a b : World} (h : Only N a b) (hM : a.heap.size <= M) (u0 u1 u2 u3 : Value) : Only N a ((((b.setCell ⟨M, 0, none⟩ u0).setCell ⟨M, 1, none⟩ u1).setCell ⟨M, 2, none⟩ u2).setCell ⟨M, 3, none⟩ u3) :=
 (((h.setO hM u0).setO hM u1).setO hM u2).setO hM u3
/-- append(own, xs...) as one step of a region that draws; where the row lies behind it. -/
theorem step_app2 {P : Program} {ops : Array Oper} {o : Oper} {a : Act} {w : World} {K : Act -> World -> Prop} {Q : Exit -> Act -> World -> Prop} {E : Prop}
 (hg : o.guard = none) (s x : Operand) (t : TypeId) (ho : o.op = .call { callee := .builtin .append, args := #[s, x], argTypes := #[t, t] })
 (base : Nat) (e : TypeId) (z : Value) (size bytes : Nat) (ht : P.underlying t = some (.slice e)) (hi : (P.info? e).map (fun i => (i.zero, i.size, i.bytes)) = some (some z, size, bytes))
 (hzs : z.cells.size = size) (hsz : 0 < size)
 (v : Value) (n : Nat) (xs : List Value) (hs : a.eval s = v) (hown : w.ownsRow base e size v n xs)
 (ad : Addr) (m c B : Nat) (news : List Value) (hx : a.eval x = .slice (some ad) m c) (hr : RowA w B size (some ad) m c news)
 (h63 : n + m <= maxLen) (hbytes : (n + m) * bytes <= 140737488355328) (hbase : base <= w.heap.size)
 (h : ∀ v' w', w'.ownsRow base e size v' (n + m) (xs ++ news) -> w.grownBy w' v.ownBlock -> (v'.ownBlock = v.ownBlock ∨ ∀ k, v'.ownBlock = some k -> w.heap.size <= k) -> K (a.put o.dst v') w') : if Region.wanted o (yielded ops a.tmps) = true then Oper.wp P o a w K Q else E := by
 have hw : Region.wanted o (yielded ops a.tmps) = true := by simp [Region.wanted, hg]
 rw [if_pos hw]
 obtain ⟨i, hi', hz, hsize, hby⟩ := info_parts hi
 obtain ⟨v', w', hrun, h2, h3, h4⟩ := run_own_where (P := P) w base t o.type e i z size bytes ht hi' hz hsize hby hzs hsz v n xs hown ad m c news hr.len hr.cells hr.one h63 hbytes hbase
 unfold Oper.wp execOp
 simp only [ho, resolve, invoke, builtin, Sem.run_bind, Sem.run_pure, Result.andThen_ok, List.map_toArray, List.map_cons, List.map_nil, hs, hx, hrun]
 exact h v' w' h2 h3 h4
/-- A box of two cells, behind more memory. -/
theorem box2_keep {w w1 : World} {c0 c1 : Value} {T : TypeId} (hb : Below (w.heap.size + 1) (w.alloc (.cells #[c0, c1] T)) w1) :
 w1.cell? ⟨w.heap.size, 0, none⟩ = some c0 /\ w1.cell? ⟨w.heap.size, 1, none⟩ = some c1 := by
 have h : w1.heap[w.heap.size]? = some (.cells #[c0, c1] T (0, 0)) := by
  rw [hb.block w.heap.size (by omega)]
  exact heap_alloc_new w _
 refine ⟨?_, ?_⟩ <;> (rw [cell_of_row _ _ _ _ _ _ h]; rfl)
theorem below_then {B : Nat} {w w1 w2 : World} (h : Below B w w1) (h2 : Below w1.heap.size w1 w2) (hB : B <= w.heap.size) : Below B w w2 :=
 h.trans (h2.mono (Nat.le_trans hB h.size))
/-- A box of four cells, behind more memory. -/
theorem box_keep {w w1 : World} {c0 c1 c2 c3 : Value} {T : TypeId} (hb : Below (w.heap.size + 1) (w.alloc (.cells #[c0, c1, c2, c3] T)) w1) :
 w1.cell? ⟨w.heap.size, 0, none⟩ = some c0 /\ w1.cell? ⟨w.heap.size, 1, none⟩ = some c1 /\ w1.cell? ⟨w.heap.size, 2, none⟩ = some c2 /\ w1.cell? ⟨w.heap.size, 3, none⟩ = some c3 := by
 have h : w1.heap[w.heap.size]? = some (.cells #[c0, c1, c2, c3] T (0, 0)) := by
  rw [hb.block w.heap.size (by omega)]
  exact heap_alloc_new w _
 refine ⟨?_, ?_, ?_, ?_⟩ <;> (rw [cell_of_row _ _ _ _ _ _ h]; rfl)
theorem below_box {w w1 : World} {o : Obj} (hb : Below (w.alloc o).heap.size (w.alloc o) w1) : Below (w.heap.size + 1) (w.alloc o) w1 := by
 have : (w.alloc o).heap.size = w.heap.size + 1 := by simp
 rwa [this] at hb
theorem below_unbox {w w1 : World} {o : Obj} (hb : Below (w.heap.size + 1) (w.alloc o) w1) : Below w.heap.size w w1 :=
 ((Below.refl w.heap.size w).alloc (Nat.le_refl _) o).trans (hb.mono (by omega))
theorem below_box_more {w w1 : World} {o o' : Obj} (hb : Below (w.heap.size + 1) (w.alloc o) w1) : Below (w.heap.size + 1) (w.alloc o) (w1.alloc o') :=
 hb.alloc (by have := hb.size; simp at this; omega) o'
theorem below_new (w : World) (o : Obj) : Below w.heap.size w (w.alloc o) := (Below.refl _ _).alloc (Nat.le_refl _) o
theorem props_len {w : World} {B cap n : Nat} {a : Option Addr} {cs : List Value} {sz : Nat} (h : RowA w B sz a n cap cs) : n <= 9223372036854775807 := by
 have h1 := h.le; have h2 := h.max; unfold maxLen at h2; omega
end Go.Proofs.YtbommcakcmhalaaGreatDoor
/- Walks: glyph.Check and what it calls. -/
namespace Go.Proofs.YtbommcakcmhalaaGreatDoor
open Go.RowKit Go.Redl
theorem info_int32 : (Tryz.prog.info? 21).map (fun i => (i.zero, i.size, i.bytes)) = some (some (.int .i32 0), 1, 4) := by kernel_rfl
theorem valid_c (c : Int) (w : World) :
 Calls Tryz.prog 175 #[.int .i32 c] w fun e w' => e = .returned (.bool (validB c)) /\ w = w' := by
 go_enter Tryz.func175, Tryz.ntmps175
 go_wp2
 all_goals (go_ret; refine ⟨ret_bool ?_, rfl⟩; unfold validB; simp; try omega)
theorem check1_c (c : Int) (w : World) :
 Calls Tryz.prog 174 #[.int .i32 c] w fun e w' => e = .returned (.bool (!validB c)) /\ w = w' := by
 go_enter Tryz.func174, Tryz.ntmps174
 go_wp2_with (go_at_call 175; refine (valid_c _ _).mono ?_; rintro e w' ⟨rfl, rfl⟩)
 go_ret
 exact ⟨rfl, rfl⟩
theorem indexFunc_rune (v : Value) (B : Nat) (zs : List Int) (fid : Nat) (caps : Array Value) (p : Int -> Bool) (w : World)
 (hv : Ints .i32 w B v zs) (he : ∀ args w, (callFunc fid args).run Tryz.prog w = .ok (.enter fid args) w)
 (hf : ∀ x, x ∈ zs -> Calls Tryz.prog fid (#[.int .i32 x] ++ caps) w fun e w' => e = .returned (.bool (p x)) /\ w = w') :
 Calls Tryz.prog 235 #[v, .func (.func fid) #[] caps] w fun e w' => e = .returned (.int .i64 (idx p zs)) /\ w = w' := by
 have Hf := Lib.hid hf; clear hf
 obtain ⟨⟨a, cap, rfl, hr⟩, -⟩ := hv
 have hm : zs.length <= 9223372036854775807 := by have h1 := hr.le; have h2 := hr.max; unfold maxLen at h2; omega
 go_enter Tryz.func235, Tryz.ntmps235
 go_wp2_with fail
 go_loop [8] (fun i => ∃ k : Nat, k <= zs.length /\ i = .int .i64 k /\ Upto p zs k) (fun i => zs.length - (intOf i).toNat)
 case atStart => exact ⟨0, Nat.zero_le _, rfl, upto_zero p zs⟩
 case round =>
  obtain ⟨k, hk, rfl, hp⟩ := hrel
  have Hp := Lib.hid hp; clear hp
  by_cases hlt : k < zs.length
  . obtain ⟨b, off, rfl, hb, hcell⟩ := hr.int_at k hlt
    have hcell := hcell k hlt
    have hin : zs[k] ∈ zs := List.getElem_mem hlt
    go_wp2_with fail
    refine (Hf.out zs[k] hin).mono ?_
    rintro e w' ⟨rfl, rfl⟩
    cases hpk : p zs[k]
    . go_wp2_with fail
      go_round
      case rel => exact ⟨k + 1, by omega, by go_num, upto_succ Hp.out hlt hpk⟩
      case measure => simp [intOf]; omega
    . go_wp2_with fail
      go_ret
      exact ⟨ret_int (idx_at Hp.out hlt hpk).symm, rfl⟩
  . go_wp2_with fail
    go_ret
    obtain rfl : k = zs.length := by omega
    exact ⟨ret_int (idx_none Hp.out).symm, rfl⟩
theorem containsFunc_rune (v : Value) (B : Nat) (zs : List Int) (fid : Nat) (caps : Array Value) (p : Int -> Bool) (w : World)
 (hv : Ints .i32 w B v zs) (he : ∀ args w, (callFunc fid args).run Tryz.prog w = .ok (.enter fid args) w)
 (hf : ∀ x, x ∈ zs -> Calls Tryz.prog fid (#[.int .i32 x] ++ caps) w fun e w' => e = .returned (.bool (p x)) /\ w = w') :
 Calls Tryz.prog 173 #[v, .func (.func fid) #[] caps] w fun e w' => e = .returned (.bool (zs.any p)) /\ w = w' := by
 have H := Lib.hid (indexFunc_rune v B zs fid caps p w hv he hf); clear hf hv
 have Hx := Lib.hid (idx_any p zs)
 go_enter Tryz.func173, Tryz.ntmps173
 go_wp2_with fail
 refine H.out.mono ?_
 rintro e w' ⟨rfl, rfl⟩
 go_wp2_with fail
 go_ret
 exact ⟨ret_bool Hx.out, rfl⟩
/-- A text's error. -/
def checkE (zs : List Int) : Int := if zs.any (fun c => !validB c) then 4 else 0
theorem check_c (v : Value) (B : Nat) (zs : List Int) (w : World) (hv : Ints .i32 w B v zs) :
 Calls Tryz.prog 108 #[v] w fun e w' => e = .returned (.int .i64 (checkE zs)) /\ w = w' := by
 have H := Lib.hid (containsFunc_rune v B zs 174 #[] (fun c => !validB c) w hv (by intro args w; kernel_rfl) (fun x _ => check1_c x w)); clear hv
 have Hx : Hid (checkE zs = if zs.any (fun c => !validB c) then 4 else 0) := rfl
 go_enter Tryz.func108, Tryz.ntmps108
 go_wp2_with fail
 refine H.out.mono ?_
 rintro e w' ⟨rfl, rfl⟩
 clear H
 cases h : zs.any (fun c => !validB c) <;> rw [h] at Hx
 . go_wp2_with fail
   go_ret
   exact ⟨ret_int (by rw [Hx.out]; rfl), rfl⟩
 . go_wp2_with fail
   go_ret
   exact ⟨ret_int (by rw [Hx.out]; rfl), rfl⟩
theorem equal_rune (v1 v2 : Value) (B : Nat) (xs ys : List Int) (w : World) (h1 : Ints .i32 w B v1 xs) (h2 : Ints .i32 w B v2 ys) :
 Calls Tryz.prog 162 #[v1, v2] w fun e w' => e = .returned (.bool (decide (xs = ys))) /\ Drawn w w' := by
 obtain ⟨⟨a, cap, rfl, hr⟩, -⟩ := h1
 obtain ⟨⟨a', cap', rfl, hr'⟩, -⟩ := h2
 have hm : xs.length <= 9223372036854775807 := by have h1 := hr.le; have h2 := hr.max; unfold maxLen at h2; omega
 have hm' : ys.length <= 9223372036854775807 := by have h1 := hr'.le; have h2 := hr'.max; unfold maxLen at h2; omega
 by_cases hl : xs.length = ys.length
 . go_enter Tryz.func162, Tryz.ntmps162
   have hle : ys.length <= xs.length := by omega
   have hle' : xs.length <= ys.length := by omega
   have hne : (((xs.length : Nat) : Int) != (ys.length : Int)) = false := by simp [hl]
   have Hl := Lib.hid hl; clear hl
   go_wp2_with fail
   go_loopw [13] (fun i wr => ∃ k : Nat, k <= xs.length /\ i = .int .i64 k /\ SameTo xs ys k /\ Drawn w wr) (fun i _ => xs.length - (intOf i).toNat)
   case atStart => exact ⟨0, Nat.zero_le _, rfl, sameTo_zero _ _, ⟨0, rfl⟩⟩
   case round =>
    obtain ⟨k, hk, rfl, hp, q, rfl⟩ := hrel
    have Hp := Lib.hid hp; clear hp
    by_cases hlt : k < xs.length
    . obtain ⟨b, off, rfl, hb, hcell⟩ := hr.int_at k hlt
      obtain ⟨b', off', rfl, hb', hcell'⟩ := hr'.int_at k (by omega)
      have hcell := hcell k hlt
      have hcell' := hcell' k (by omega)
      have hlt' : k < ys.length := by omega
      rw [getD_of_lt hlt] at hcell
      rw [getD_of_lt hlt'] at hcell'
      go_wp2_with fail
      by_cases he : xs[k] = ys[k]
      . have hne : (xs[k] != ys[k]) = false := by simp [he]
        have He := Lib.hid he; clear he
        go_quiet (fail)
        go_wp2_with fail
        go_roundw
        case rel => exact ⟨k + 1, by omega, by go_num, sameTo_succ Hp.out hlt hlt' He.out, by first | exact drawn_one _ _ | exact drawn_two _ _ _⟩
        case measure => simp [intOf]; omega
      . have hne : (xs[k] != ys[k]) = true := by simp [he]
        have He := Lib.hid he; clear he
        go_quiet (fail)
        go_wp2_with fail
        go_ret
        exact ⟨ret_bool (by simp [same_not hlt hlt' He.out]), drawn_two _ _ _⟩
    . go_wp2_with fail
      go_ret
      obtain rfl : k = xs.length := by omega
      exact ⟨ret_bool (by simp [sameTo_all Hp.out Hl.out]), drawn_one _ _⟩
 . have hne : (((xs.length : Nat) : Int) != (ys.length : Int)) = true := by simp; omega
   have Hl := Lib.hid hl; clear hl
   go_enter Tryz.func162, Tryz.ntmps162
   go_wp2_with fail
   go_ret
   exact ⟨ret_bool (by simp [show xs ≠ ys from fun h => Hl.out (by rw [h])]), drawn_zero _⟩
end Go.Proofs.YtbommcakcmhalaaGreatDoor
/- Walks: clones of rows; node.Copy. -/
namespace Go.Proofs.YtbommcakcmhalaaGreatDoor
open Go.RowKit Go.Redl
theorem info_propC : (Tryz.prog.info? 141).map (fun i => (i.zero, i.size, i.bytes)) = some (some (.agg #[.string ⟨#[]⟩, .string ⟨#[]⟩]), 2, 32) := by kernel_rfl
theorem info_nodeC : (Tryz.prog.info? 35).map (fun i => (i.zero, i.size, i.bytes)) = some (some (.agg #[.bool false, .slice none 0 0, .slice none 0 0, .slice none 0 0]), 4, 80) := by kernel_rfl
theorem clone_prop (B n : Nat) (a : Option Addr) (cap : Nat) (cs : List Value) (w : World) (hr : RowA w B 2 a n cap cs) (hB : B <= w.heap.size) (hn : n <= 100000000) :
 Calls Tryz.prog 116 #[.slice a n cap] w (MadeRow w 141 2 n cs) := by
 have hel := fun (w : World) => Lib.run_eql_slice_nil w (P := Tryz.prog) 31 141 a n cap 0 0 Tryz.underlying31
 cases ha : a with
 | none =>
   subst ha
   obtain rfl := hr.nil rfl
   obtain rfl : n = 0 := by have := hr.le; omega
   have hcs : cs = [] := List.eq_nil_of_length_eq_zero (by simpa using hr.len)
   subst hcs
   go_enter Tryz.func116, Tryz.ntmps116
   go_wp2_with fail
   go_ret
   exact ⟨_, rfl, World.ownsRow_nil _ _ _ _, Below.refl _ _⟩
 | some ad =>
   subst ha
   go_enter Tryz.func116, Tryz.ntmps116
   go_wp2_with (at_builtin; refine wpList_app rfl _ _ 31 rfl w.heap.size 141 (.agg #[.string ⟨#[]⟩, .string ⟨#[]⟩]) 2 32 Tryz.underlying31 info_propC rfl (by decide) _ 0 [] rfl ?hown _ n cap B cs rfl ?hr ?h63 ?hb ?hbase ?_)
   case hown => exact World.ownsRow_lit w #[] 0 (Nat.le_refl _) (Nat.zero_le _) rfl
   case hr => exact hr.keep ((Below.refl _ _).alloc hB _) (Nat.le_refl _)
   case h63 => unfold maxLen; omega
   case hb => omega
   case hbase => simp
   intro v' w1 hown hgrow
   have Ho := Lib.hid hown; have Hg := Lib.hid hgrow; clear hown hgrow hel hr
   go_wp2_with fail
   go_ret
   refine ⟨v', rfl, by simpa using Ho.out, ((Below.refl _ _).alloc (Nat.le_refl _) _).grown Hg.out (by simp) ?_⟩
   simp [Value.ownBlock]
theorem clone_node (B n : Nat) (a : Option Addr) (cap : Nat) (cs : List Value) (w : World) (hr : RowA w B 4 a n cap cs) (hB : B <= w.heap.size) (hn : n <= 100000000) :
 Calls Tryz.prog 118 #[.slice a n cap] w (MadeRow w 35 4 n cs) := by
 have hel := fun (w : World) => Lib.run_eql_slice_nil w (P := Tryz.prog) 33 35 a n cap 0 0 Tryz.underlying33
 cases ha : a with
 | none =>
   subst ha
   obtain rfl := hr.nil rfl
   obtain rfl : n = 0 := by have := hr.le; omega
   have hcs : cs = [] := List.eq_nil_of_length_eq_zero (by simpa using hr.len)
   subst hcs
   go_enter Tryz.func118, Tryz.ntmps118
   go_wp2_with fail
   go_ret
   exact ⟨_, rfl, World.ownsRow_nil _ _ _ _, Below.refl _ _⟩
 | some ad =>
   subst ha
   go_enter Tryz.func118, Tryz.ntmps118
   go_wp2_with (at_builtin; refine wpList_app rfl _ _ 33 rfl w.heap.size 35 (.agg #[.bool false, .slice none 0 0, .slice none 0 0, .slice none 0 0]) 4 80 Tryz.underlying33 info_nodeC rfl (by decide) _ 0 [] rfl ?hown _ n cap B cs rfl ?hr ?h63 ?hb ?hbase ?_)
   case hown => exact World.ownsRow_lit w #[] 0 (Nat.le_refl _) (Nat.zero_le _) rfl
   case hr => exact hr.keep ((Below.refl _ _).alloc hB _) (Nat.le_refl _)
   case h63 => unfold maxLen; omega
   case hb => omega
   case hbase => simp
   intro v' w1 hown hgrow
   have Ho := Lib.hid hown; have Hg := Lib.hid hgrow; clear hown hgrow hel hr
   go_wp2_with fail
   go_ret
   refine ⟨v', rfl, by simpa using Ho.out, ((Below.refl _ _).alloc (Nat.le_refl _) _).grown Hg.out (by simp) ?_⟩
   simp [Value.ownBlock]
theorem clone_runes (B n : Nat) (a : Option Addr) (cap : Nat) (cs : List Value) (w : World) (hr : RowA w B 1 a n cap cs) (hB : B <= w.heap.size) (hn : n <= 100000000) :
 Calls Tryz.prog 117 #[.slice a n cap] w (MadeRow w 21 1 n cs) := by
 have hel := fun (w : World) => Lib.run_eql_slice_nil w (P := Tryz.prog) 32 21 a n cap 0 0 Tryz.underlying32
 cases ha : a with
 | none =>
   subst ha
   obtain rfl := hr.nil rfl
   obtain rfl : n = 0 := by have := hr.le; omega
   have hcs : cs = [] := List.eq_nil_of_length_eq_zero (by simpa using hr.len)
   subst hcs
   go_enter Tryz.func117, Tryz.ntmps117
   go_wp2_with fail
   go_ret
   exact ⟨_, rfl, World.ownsRow_nil _ _ _ _, Below.refl _ _⟩
 | some ad =>
   subst ha
   go_enter Tryz.func117, Tryz.ntmps117
   go_wp2_with (at_builtin; refine wpList_app rfl _ _ 32 rfl w.heap.size 21 (.int .i32 0) 1 4 Tryz.underlying32 info_int32 rfl (by decide) _ 0 [] rfl ?hown _ n cap B cs rfl ?hr ?h63 ?hb ?hbase ?_)
   case hown => exact World.ownsRow_lit w #[] 0 (Nat.le_refl _) (Nat.zero_le _) rfl
   case hr => exact hr.keep ((Below.refl _ _).alloc hB _) (Nat.le_refl _)
   case h63 => unfold maxLen; omega
   case hb => omega
   case hbase => simp
   intro v' w1 hown hgrow
   have Ho := Lib.hid hown; have Hg := Lib.hid hgrow; clear hown hgrow hel hr
   go_wp2_with fail
   go_ret
   refine ⟨v', rfl, by simpa using Ho.out, ((Below.refl _ _).alloc (Nat.le_refl _) _).grown Hg.out (by simp) ?_⟩
   simp [Value.ownBlock]
end Go.Proofs.YtbommcakcmhalaaGreatDoor
/- Walks: node.Copy. -/
namespace Go.Proofs.YtbommcakcmhalaaGreatDoor
open Go.RowKit Go.Redl
theorem clp_ent : ∀ args w, (callFunc 116 args).run Tryz.prog w = .ok (.enter 116 args) w := by intro args w; kernel_rfl
theorem clr_ent : ∀ args w, (callFunc 117 args).run Tryz.prog w = .ok (.enter 117 args) w := by intro args w; kernel_rfl
theorem cln_ent : ∀ args w, (callFunc 118 args).run Tryz.prog w = .ok (.enter 118 args) w := by intro args w; kernel_rfl
theorem copy_ent : ∀ args w, (callFunc 64 args).run Tryz.prog w = .ok (.enter 64 args) w := by intro args w; kernel_rfl
/-- Two rows of the call's own, made one behind the other. -/
theorem row_apart {w1 w3 : World} {b1 b3 e e' sz sz' n n' c M : Nat} {a : Option Addr} {u : Value} {cs cs' : List Value} (h1 : w1.ownsRow b1 e sz (.slice a n c) n cs) (ho : ∀ u ∈ cs, u.oneCell' = true) (hb : Below w1.heap.size w1 w3) (h3 : w3.ownsRow b3 e' sz' u n' cs') (hle : w1.heap.size <= b3) (hM : M <= b1) :
 RowQ w3 (fun b => M <= b /\ u.ownBlock ≠ some b) sz a n c cs := by
 obtain ⟨a', c', hv, hr⟩ := RowQ.of_own h1 ho
 injection hv with e1 e2 e3
 subst e1; subst e3
 refine hr.keep hb.size (fun b _ hlt => hb.block b hlt) (fun b hk hlt => ⟨Nat.le_trans hM (h1.lt b hk).1, fun hu => ?_⟩)
 have := (h3.lt b hu).1
 omega
theorem own_some {w : World} {base e sz n c : Nat} {a : Option Addr} {cs : List Value} (h : w.ownsRow base e sz (.slice a n c) n cs) (hne : cs ≠ []) : ∃ g, a = some ⟨g, 0, none⟩ /\ base <= g := by
 rcases h.2 with ⟨h', h2⟩ | ⟨g, cap, cur, h', hb, hg, -⟩
 . have := h.1
   rw [h2] at this
   exact absurd (List.eq_nil_of_length_eq_zero (by simpa using this)) hne
 . injection h' with e1 e2 e3
   exact ⟨g, e1, hb⟩
theorem KidsQ.len' {w : World} {ok : Nat -> Prop} {ks : List NodeD} {css : List Value} (h : KidsQ w ok ks css) : css.length = ks.length * 4 := (KidsQ.kids _ _ h).len
theorem set_four {p q r : List Value} {k : Nat} {a b c d u0 u1 u2 u3 : Value} (hk : p.length = k) (hq : q = a :: b :: c :: d :: r) : ((((p ++ q).set k u0).set (k + 1) u1).set (k + 2) u2).set (k + 3) u3 = (p ++ [u0, u1, u2, u3]) ++ r := by
 subst hq; subst hk
 simp
theorem own_at {w : World} {base e sz n c g : Nat} {cs : List Value} (h : w.ownsRow base e sz (.slice (some ⟨g, 0, none⟩) n c) n cs) (j : Nat) (u : Value) (hu : cs[j]? = some u) : w.cell? ⟨g, j, none⟩ = some u := by
 have := World.ownsRow.cells (g := g) h rfl j u hu
 rw [addr_add] at this
 simpa using this
/-- What Copy gives: the same tree, in memory of its own. -/
def CopyP (W : World) (n : NodeD) (e : Ending) (w' : World) : Prop := ∃ cs, e = .returned (.agg cs.toArray) /\ NodeQ w' (fun b => W.heap.size <= b) n cs /\ Below W.heap.size W w'
theorem copy_c (m : Nat) : ∀ (n : NodeD) (v : Value) (W : World), n.wt <= m -> n.wt <= 100000000 -> NodeV W W.heap.size n v -> Calls Tryz.prog 64 #[v] W (CopyP W n) := by
 induction m with
 | zero => intro n v W hm; have := wt_pos n; omega
 | succ m IH =>
   intro n v W hm hbig hv
   obtain ⟨l, ps, t, ks⟩ := n
   obtain ⟨ap, cp, at_, ct, ak, ck, css, rfl, hp, ht, hk, hkk⟩ := hv.open
   have hwt : wtAll ks <= m := by simp only [NodeD.wt] at hm; omega
   have hpl : ps.length <= 100000000 := by have := propsWt_len ps; simp only [NodeD.wt] at hbig; omega
   have htl : t.length <= 100000000 := by simp only [NodeD.wt] at hbig; omega
   have hkl : ks.length <= 100000000 := by have := wtAll_len ks; simp only [NodeD.wt] at hbig; omega
   have hkw : wtAll ks <= 100000000 := by simp only [NodeD.wt] at hbig; omega
   obtain ⟨⟨at2, ct2, htv, htr⟩, htw⟩ := ht
   injection htv with e1 e2 e3
   subst e1; subst e3
   have hA := (NodeAt.fresh W (.bool l) (.slice ap ps.length cp) (.slice at_ t.length ct) (.slice ak ks.length ck)).alloc (Obj.cells #[.bool false, .slice none 0 0, .slice none 0 0, .slice none 0 0] 35)
   have hB := node_second W (Obj.cells #[.bool l, .slice ap ps.length cp, .slice at_ t.length ct, .slice ak ks.length ck] 35) (.bool false) (.slice none 0 0) (.slice none 0 0) (.slice none 0 0)
   have hb0 : Below W.heap.size W ((W.alloc (Obj.cells #[.bool l, .slice ap ps.length cp, .slice at_ t.length ct, .slice ak ks.length ck] 35)).alloc (Obj.cells #[.bool false, .slice none 0 0, .slice none 0 0, .slice none 0 0] 35)) := ((Below.refl _ _).alloc (Nat.le_refl _) _).alloc (by simp) _
   have hs0 : ((W.alloc (Obj.cells #[.bool l, .slice ap ps.length cp, .slice at_ t.length ct, .slice ak ks.length ck] 35)).alloc (Obj.cells #[.bool false, .slice none 0 0, .slice none 0 0, .slice none 0 0] 35)).heap.size = W.heap.size + 2 := by simp
   have HI := Lib.hid (fun (i : Nat) (h : i < ks.length) (v : Value) (W2 : World) (q : NodeV W2 W2.heap.size ks[i] v) => IH ks[i] v W2 (Nat.le_trans (wtAll_mem (List.getElem_mem h)) hwt) (Nat.le_trans (wtAll_mem (List.getElem_mem h)) hkw) q)
   have Hp := Lib.hid (hp.keep hb0 (Nat.le_refl _)); have Ht := Lib.hid (htr.keep hb0 (Nat.le_refl _)); have Hk := Lib.hid (hk.keep hb0 (Nat.le_refl _)); have Hkk := Lib.hid (KidsC.keep hb0 (Nat.le_refl _) _ _ hkk)
   have Htone := Lib.hid (show ∀ u ∈ t.map (Value.int .i32), u.oneCell' = true by intro u hu; obtain ⟨z, -, rfl⟩ := List.mem_map.1 hu; rfl); have Hkkone := Lib.hid hkk.one
   have HkkW := Lib.hid hkk
   have Htw := Lib.hid htw; have Hb0 := Lib.hid hb0; have HA := Lib.hid hA; have HB := Lib.hid hB; have Hs0 := Lib.hid hs0
   clear IH hm hbig hv hp htr hk hkk htw hb0 hA hB hwt hkw hs0
   go_enter Tryz.func64, Tryz.ntmps64
   go_upto_region 1 with fail
   obtain ⟨w0, hw0⟩ : ∃ w0, w0 = (W.alloc (Obj.cells #[.bool l, .slice ap ps.length cp, .slice at_ t.length ct, .slice ak ks.length ck] 35)).alloc (Obj.cells #[.bool false, .slice none 0 0, .slice none 0 0, .slice none 0 0] 35) := ⟨_, rfl⟩
   rw [<- hw0] at Hp Ht Hk Hkk Hb0 HA HB Hs0 ⊢
   clear hw0
   obtain ⟨x0, x1, x2, x3, ⟨f0, f1, f2, f3⟩, hA4⟩ := HA.out.facts
   go_cut [] (fun wx => ∃ pa pc ta tc ka kc, NodeAt wx W.heap.size (.bool l) (.slice pa ps.length pc) (.slice ta t.length tc) (.slice ka ks.length kc) /\ NodeAt wx (W.heap.size + 1) (.bool false) (.slice none 0 0) (.slice none 0 0) (.slice none 0 0) /\
    RowQ wx (fun b => W.heap.size + 2 <= b /\ (Value.slice ka ks.length kc).ownBlock ≠ some b) 2 pa ps.length pc (propCells ps) /\ RowQ wx (fun b => W.heap.size + 2 <= b /\ (Value.slice ka ks.length kc).ownBlock ≠ some b) 1 ta t.length tc (t.map (Value.int .i32)) /\
    wx.ownsRow (W.heap.size + 2) 35 4 (.slice ka ks.length kc) ks.length css /\ Below W.heap.size W wx)
   case first =>
    go_region_law (first
     | (refine step_call rfl 116 _ _ rfl clp_ent [Value.slice ap ps.length cp] ?_ _ (clone_prop W.heap.size ps.length ap cp _ _ (Hp.out.keep ?_ (Nat.le_refl _)) ?_ hpl) ?_
        . go_simp
        . exact (Below.refl _ _).drew
        . show W.heap.size <= w0.heap.size; rw [Hs0.out]; omega
        rintro e w1 ⟨v1, rfl, hown, hbel⟩
        obtain ⟨pa, pc, rfl, -⟩ := row_of_own hown (propCells_one _)
        refine ⟨_, rfl, ?_⟩
        have Hbel1 := Lib.hid (((Below.refl w0.heap.size w0).drew).trans hbel); have Hown1 := Lib.hid hown
        have hA1 := HA.out.keep (Hbel1.out.mono (by rw [Hs0.out]; omega))
        obtain ⟨y0, y1, y2, y3, ⟨k0, k1, k2, k3⟩, hA5⟩ := hA1.facts
        clear hbel hown hA1)
     | (refine step_call rfl 117 _ _ rfl clr_ent [Value.slice at_ t.length ct] ?_ _ (clone_runes W.heap.size t.length at_ ct _ _ (Ht.out.keep (Hbel1.out.mono ?_) (Nat.le_refl _)) ?_ htl) ?_
        . go_simp
        . rw [Hs0.out]; omega
        . have := Hbel1.out.size; rw [Hs0.out] at this; omega
        rintro e w2 ⟨v2, rfl, hown, hbel⟩
        obtain ⟨ta, tc, rfl, -⟩ := row_of_own hown Htone.out
        refine ⟨_, rfl, ?_⟩
        have Hbel2 := Lib.hid (Hbel1.out.trans (hbel.mono Hbel1.out.size)); have Hown2 := Lib.hid hown; have Hbel12 := Lib.hid hbel
        have hA1 := HA.out.keep (Hbel2.out.mono (by rw [Hs0.out]; omega))
        obtain ⟨z0, z1, z2, z3, ⟨g0, g1, g2, g3⟩, hA6⟩ := hA1.facts
        clear hbel hown hA1)
     | (refine step_call rfl 118 _ _ rfl cln_ent [Value.slice ak ks.length ck] ?_ _ (clone_node W.heap.size ks.length ak ck _ _ (Hk.out.keep (Hbel2.out.mono ?_) (Nat.le_refl _)) ?_ hkl) ?_
        . go_simp
        . rw [Hs0.out]; omega
        . have := Hbel2.out.size; rw [Hs0.out] at this; omega
        rintro e w3 ⟨v3, rfl, hown, hbel⟩
        obtain ⟨ka, kc, rfl, -⟩ := row_of_own hown Hkkone.out
        refine ⟨_, rfl, ?_⟩
        have Hbel3 := Lib.hid (Hbel2.out.trans (hbel.mono Hbel2.out.size)); have Hown3 := Lib.hid hown; have Hbel23 := Lib.hid hbel
        have hA1 := HA.out.keep (Hbel3.out.mono (by rw [Hs0.out]; omega))
        obtain ⟨t0, t1, t2, t3, ⟨r0, r1, r2, r3⟩, hA7⟩ := hA1.facts
        have HA3 := Lib.hid hA1
        clear hbel hown hA1))
    all_goals
     go_wp2_with fail
     go_meet
     case rel =>
      have hM3 : W.heap.size + 2 <= w0.heap.size := by rw [Hs0.out]; omega
      have hrp := row_apart (M := W.heap.size + 2) Hown1.out (propCells_one _) (Hbel12.out.trans (Hbel23.out.mono Hbel12.out.size)) Hown3.out Hbel12.out.size hM3
      have hrt := row_apart (M := W.heap.size + 2) Hown2.out Htone.out Hbel23.out Hown3.out (Nat.le_refl _) (Nat.le_trans hM3 Hbel1.out.size)
      have hkM : W.heap.size + 2 <= w2.heap.size := Nat.le_trans hM3 Hbel2.out.size
      have hn1 : ¬ (W.heap.size + 2 <= W.heap.size /\ (Value.slice ka ks.length kc).ownBlock ≠ some W.heap.size) := fun h => by omega
      refine ⟨pa, pc, ta, tc, ka, kc, ?_, ?_, ?_, ?_, ?_, ?_⟩
      . exact ((HA3.out.s1 _).s2 _).s3 _
      . exact (((HB.out.keep (Hbel3.out.mono (by rw [Hs0.out]; omega))).set (by omega)).set (by omega)).set (by omega)
      . exact rowq_set (rowq_set (rowq_set hrp hn1) hn1) hn1
      . exact rowq_set (rowq_set (rowq_set hrt hn1) hn1) hn1
      . exact own_mono (ownsRow_setCell_below (a := ⟨W.heap.size, 3, none⟩) (ownsRow_setCell_below (a := ⟨W.heap.size, 2, none⟩) (ownsRow_setCell_below (a := ⟨W.heap.size, 1, none⟩) Hown3.out (show W.heap.size < w2.heap.size by omega) _) (show W.heap.size < w2.heap.size by omega) _) (show W.heap.size < w2.heap.size by omega) _) hkM
      . exact ((((Hb0.out.trans (Hbel3.out.mono (by rw [Hs0.out]; omega))).setCell (p := ⟨W.heap.size, 1, none⟩) (Nat.le_refl _) _).setCell (p := ⟨W.heap.size, 2, none⟩) (Nat.le_refl _) _).setCell (p := ⟨W.heap.size, 3, none⟩) (Nat.le_refl _) _)
   case rest =>
    obtain ⟨pa, pc, ta, tc, ka, kc, hA, hB, hrp, hrt, hown, hbel⟩ := hcut
    obtain ⟨y0, y1, y2, y3, -, hA5⟩ := hA.facts
    have Hi := Lib.hid (show _ /\ _ /\ _ /\ _ /\ _ /\ _ from ⟨hA, hB, hrp, hrt, hown, hbel⟩)
    clear hA hB hrp hrt hown hbel x0 x1 x2 x3 f0 f1 f2 f3 hA4 HA HB Hp Ht Hk
    go_wp2_with fail
    clear y0 y1 y2 y3 hA5
    go_loopg [20] ks.length (fun g i wr => ∃ (j : Nat) (csN : List Value), i = .int .i64 j /\ j + g = ks.length /\ NodeAt wr W.heap.size (.bool l) (.slice pa ps.length pc) (.slice ta t.length tc) (.slice ka ks.length kc) /\ NodeAt wr (W.heap.size + 1) (.bool false) (.slice none 0 0) (.slice none 0 0) (.slice none 0 0) /\
     RowQ wr (fun b => W.heap.size + 2 <= b /\ (Value.slice ka ks.length kc).ownBlock ≠ some b) 2 pa ps.length pc (propCells ps) /\ RowQ wr (fun b => W.heap.size + 2 <= b /\ (Value.slice ka ks.length kc).ownBlock ≠ some b) 1 ta t.length tc (t.map (Value.int .i32)) /\
     wr.ownsRow (W.heap.size + 2) 35 4 (.slice ka ks.length kc) ks.length (csN ++ css.drop (j * 4)) /\ KidsQ wr (fun b => W.heap.size + 2 <= b /\ (Value.slice ka ks.length kc).ownBlock ≠ some b) (ks.take j) csN /\ Below W.heap.size W wr)
    case atStart =>
     obtain ⟨hA, hB, hrp, hrt, hown, hbel⟩ := Hi.out
     exact ⟨0, [], rfl, by omega, hA, hB, hrp, hrt, by simpa using hown, by unfold KidsQ; simp, hbel⟩
    case round =>
     obtain ⟨j, csN, rfl, hg, hA, hB, hrp, hrt, hown, hkids, hbel⟩ := hrel
     obtain ⟨y0, y1, y2, y3, ⟨p0, p1, p2, p3⟩, hA5⟩ := hA.facts
     obtain ⟨z0, z1, z2, z3, ⟨q0, q1, q2, q3⟩, hB5⟩ := hB.facts
     have hcl := KidsQ.len' hkids
     have hclen := Hkk.out.len
     have HA2 := Lib.hid hA; have HB2 := Lib.hid hB; have Hrp := Lib.hid hrp; have Hrt := Lib.hid hrt; have Hown := Lib.hid hown; have Hkids := Lib.hid hkids; have Hbel := Lib.hid hbel
     clear hA hB hrp hrt hkids
     by_cases hlt : j < ks.length
     . obtain ⟨c, hc, hall⟩ := HkkW.out.at_ j hlt
       have hc' := NodeC.keep hbel (Nat.le_refl _) _ _ hc
       obtain ⟨l1, a1, n1, c1, a2, n2, c2, a3, n3, c3, rfl⟩ := hc'.form
       have hcj : csN.length = j * 4 := by rw [hcl, List.length_take, Nat.min_eq_left (by omega)]
       have hjl : j * 4 + 4 <= css.length := by rw [hclen]; omega
       obtain ⟨g, rfl, hgM⟩ := own_some Hown.out (by
        intro e
        have := congrArg List.length e
        simp only [List.length_append, List.length_drop, List.length_nil] at this
        omega)
       have hgl : g < wr.heap.size := (Hown.out.lt g rfl).2
       have hat : ∀ i, i < 4 -> (csN ++ css.drop (j * 4))[j * 4 + i]? = [Value.bool l1, .slice a1 n1 c1, .slice a2 n2 c2, .slice a3 n3 c3][i]? := by
        intro i hi
        rw [List.getElem?_append_right (by omega), List.getElem?_drop, hcj, show j * 4 + (j * 4 + i - j * 4) = j * 4 + i by omega]
        exact hall i hi
       have k0 := own_at Hown.out _ _ (hat 0 (by omega))
       have k1 := own_at Hown.out _ _ (hat 1 (by omega))
       have k2 := own_at Hown.out _ _ (hat 2 (by omega))
       have k3 := own_at Hown.out _ _ (hat 3 (by omega))
       have hdrop : ∃ x0 x1 x2 x3, css.drop (j * 4) = x0 :: x1 :: x2 :: x3 :: css.drop ((j + 1) * 4) := by
        refine ⟨css[j * 4], css[j * 4 + 1], css[j * 4 + 2], css[j * 4 + 3], ?_⟩
        rw [List.drop_eq_getElem_cons (by omega), List.drop_eq_getElem_cons (by omega), List.drop_eq_getElem_cons (by omega), List.drop_eq_getElem_cons (by omega)]
        rw [show (j + 1) * 4 = j * 4 + 1 + 1 + 1 + 1 by omega]
       have hlti : (j : Int) < ks.length := by omega
       have HC := Lib.hid (fun (W' : World) (hbw : Below wr.heap.size wr W') => HI.out j hlt (.agg #[.bool l1, .slice a1 n1 c1, .slice a2 n2 c2, .slice a3 n3 c3]) W' ⟨_, rfl, NodeC.keep (hbw.mono hbel.size) (Nat.le_trans hbel.size hbw.size) _ _ hc'⟩)
       have Hdrop := Lib.hid hdrop; have Hcj := Lib.hid hcj
       have hW := hbel.size
       have hgne : g ≠ W.heap.size := by omega
       clear hc hc' hall hat hdrop hcj hown hbel Hi hcl hclen hjl
       simp only [Nat.add_zero] at k0
       go_wp2_with fail
       go_region_law (first
        | (refine step_call rfl 64 _ _ rfl copy_ent [Value.agg #[.bool l1, .slice a1 n1 c1, .slice a2 n2 c2, .slice a3 n3 c3]] ?_ _ (HC.out _ ?_) ?_
           . go_simp
           . exact ((Below.refl _ _).alloc (Nat.le_refl _) _).drew
           rintro e w6 ⟨cs', rfl, hnode, hbel6⟩
           obtain ⟨m1, b1, o1, d1, b2, o2, d2, b3, o3, d3, rfl⟩ := hnode.form
           refine ⟨_, rfl, ?_⟩
           have Hb6 := Lib.hid ((((Below.refl wr.heap.size wr).alloc (Nat.le_refl _) (Obj.cells #[.bool l1, .slice a1 n1 c1, .slice a2 n2 c2, .slice a3 n3 c3] 35)).drew).trans (hbel6.mono (by show wr.heap.size <= (wr.alloc _).heap.size; simp)))
           have hA6 := HA2.out.keep (Hb6.out.mono (by omega))
           have hown6 := own_keep Hown.out Hb6.out
           have r0 := hown6.frozenAt (j * 4); have r1 := hown6.frozenAt (j * 4 + 1); have r2 := hown6.frozenAt (j * 4 + 2); have r3 := hown6.frozenAt (j * 4 + 3)
           have hg6 := (hown6.lt g rfl).2
           have k0' := (Hb6.out.cell (p := ⟨g, j * 4, none⟩) hgl).trans k0; have k1' := (Hb6.out.cell (p := ⟨g, j * 4 + 1, none⟩) hgl).trans k1; have k2' := (Hb6.out.cell (p := ⟨g, j * 4 + 2, none⟩) hgl).trans k2; have k3' := (Hb6.out.cell (p := ⟨g, j * 4 + 3, none⟩) hgl).trans k3
           obtain ⟨s0, s1, s2, s3, -, hA7⟩ := hA6.facts
           have HA6 := Lib.hid hA6; have Hown6 := Lib.hid hown6; have Hnode := Lib.hid hnode
           clear hA6 hown6 hnode hbel6))
       all_goals
        go_wp2_with fail
        go_roundg (gk - 1)
        case measure => omega
        case rel =>
         have hz : (Value.slice (some ⟨g, 0, none⟩) ks.length kc).ownBlock = some g := by simp [Value.ownBlock]
         obtain ⟨x0, x1, x2, x3, hdr⟩ := Hdrop.out
         have hs := (((Hown6.out.stored (j * 4) (.bool m1)).1.stored (j * 4 + 1) (.slice b1 o1 d1)).1.stored (j * 4 + 2) (.slice b2 o2 d2)).1.stored (j * 4 + 3) (.slice b3 o3 d3) |>.1
         rw [set_four Hcj.out hdr] at hs
         have hng : ¬ (W.heap.size + 2 <= g /\ (Value.slice (some ⟨g, 0, none⟩) ks.length kc).ownBlock ≠ some g) := fun h => h.2 hz
         have hk6 := KidsQ.keep (w' := w6) (ok' := fun b => W.heap.size + 2 <= b /\ (Value.slice (some ⟨g, 0, none⟩) ks.length kc).ownBlock ≠ some b) Hb6.out.size (fun b _ hlt => Hb6.out.block b hlt) (fun b hb _ => hb) _ _ Hkids.out
         have hrp6 := Hrp.out.keep (w' := w6) (ok' := fun b => W.heap.size + 2 <= b /\ (Value.slice (some ⟨g, 0, none⟩) ks.length kc).ownBlock ≠ some b) Hb6.out.size (fun b _ hlt => Hb6.out.block b hlt) (fun b hb _ => hb)
         have hrt6 := Hrt.out.keep (w' := w6) (ok' := fun b => W.heap.size + 2 <= b /\ (Value.slice (some ⟨g, 0, none⟩) ks.length kc).ownBlock ≠ some b) Hb6.out.size (fun b _ hlt => Hb6.out.block b hlt) (fun b hb _ => hb)
         have hB6 := HB2.out.keep (Hb6.out.mono (by omega))
         have hbl : ∀ b, (wr.alloc (Obj.cells #[.bool l1, .slice a1 n1 c1, .slice a2 n2 c2, .slice a3 n3 c3] 35)).heap.size <= b -> W.heap.size + 2 <= b /\ (Value.slice (some ⟨g, 0, none⟩) ks.length kc).ownBlock ≠ some b := by
          intro b hb
          have h1 : wr.heap.size + 1 <= b := by simpa using hb
          refine ⟨by omega, ?_⟩
          rw [hz]
          intro e
          injection e with e
          omega
         have hnq := NodeQ.keep (w' := w6) (ok' := fun b => W.heap.size + 2 <= b /\ (Value.slice (some ⟨g, 0, none⟩) ks.length kc).ownBlock ≠ some b) (Nat.le_refl _) (fun _ _ _ => rfl) (fun b hb _ => hbl b hb) _ _ Hnode.out
         have hkk := kidsq_set (o := j * 4 + 3) (u := .slice b3 o3 d3) (kidsq_set (o := j * 4 + 2) (u := .slice b2 o2 d2) (kidsq_set (o := j * 4 + 1) (u := .slice b1 o1 d1) (kidsq_set (o := j * 4) (u := .bool m1) (hk6.append (KidsQ.one hnq)) hng) hng) hng) hng
         rw [<- List.take_succ_eq_append_getElem hlt] at hkk
         refine ⟨j + 1, csN ++ [.bool m1, .slice b1 o1 d1, .slice b2 o2 d2, .slice b3 o3 d3], rfl, by omega, ?_, ?_, ?_, ?_, hs, hkk, ?_⟩
         . exact (((HA6.out.set hgne.symm).set hgne.symm).set hgne.symm).set hgne.symm
         . exact (((hB6.set (by omega)).set (by omega)).set (by omega)).set (by omega)
         . exact rowq_set (rowq_set (rowq_set (rowq_set hrp6 hng) hng) hng) hng
         . exact rowq_set (rowq_set (rowq_set (rowq_set hrt6 hng) hng) hng) hng
         . exact ((((below_then Hbel.out Hb6.out (Nat.le_refl _)).setCell (p := ⟨g, j * 4, none⟩) (by show W.heap.size <= g; omega) _).setCell (p := ⟨g, j * 4 + 1, none⟩) (by show W.heap.size <= g; omega) _).setCell (p := ⟨g, j * 4 + 2, none⟩) (by show W.heap.size <= g; omega) _).setCell (p := ⟨g, j * 4 + 3, none⟩) (by show W.heap.size <= g; omega) _
     . have hnl : decide ((j : Int) < ks.length) = false := by simp; omega
       clear hown hbel Hi
       go_wp2_with fail
       refine bodyPost_ret (v := .agg #[.bool l, .slice pa ps.length pc, .slice ta t.length tc, .slice ka ks.length kc]) (by simp [results, Tryz.results64, go_sem, z0, z1, z2, z3]) rfl ?_
       have hj : j = ks.length := by omega
       have hown2 := Hown.out
       have hkids2 := Hkids.out
       rw [hj, List.take_length] at hkids2
       rw [hj, List.drop_eq_nil_of_le (by omega), List.append_nil] at hown2
       have hn1 : ¬ (W.heap.size + 2 <= W.heap.size + 1 /\ (Value.slice ka ks.length kc).ownBlock ≠ some (W.heap.size + 1)) := fun h => by omega
       have hn2 : ¬ (W.heap.size + 2 <= W.heap.size + 1) := by omega
       obtain ⟨ka', kc', hka, hrk⟩ := RowQ.of_own hown2 (KidsQ.onec hkids2)
       injection hka with e1 e2 e3
       subst e1; subst e3
       have hrk2 : RowQ wr (fun b => W.heap.size + 2 <= b) 4 ka ks.length kc csN := hrk.keep (Nat.le_refl _) (fun _ _ _ => rfl) (fun b hb _ => (hown2.lt b hb).1)
       refine ⟨[.bool l, .slice pa ps.length pc, .slice ta t.length tc, .slice ka ks.length kc], rfl, ?_, ?_⟩
       . unfold NodeQ
         refine ⟨pa, pc, ta, tc, ka, kc, csN, rfl, ?_, ?_, Htw.out, ?_, ?_⟩
         . exact (rowq_all Hrp.out hn1 _ _ _ _).keep (Nat.le_refl _) (fun _ _ _ => rfl) (fun b hb _ => by omega)
         . exact (rowq_all Hrt.out hn1 _ _ _ _).keep (Nat.le_refl _) (fun _ _ _ => rfl) (fun b hb _ => by omega)
         . exact (rowq_all hrk2 hn2 _ _ _ _).keep (Nat.le_refl _) (fun _ _ _ => rfl) (fun b hb _ => by omega)
         . exact KidsQ.keep (Nat.le_refl _) (fun _ _ _ => rfl) (fun b hb _ => by omega) _ _ (kidsq_all hkids2 hn1 _ _ _ _)
       . with_reducible exact below_all Hbel.out (Nat.le_succ _) _ _ _ _
end Go.Proofs.YtbommcakcmhalaaGreatDoor
