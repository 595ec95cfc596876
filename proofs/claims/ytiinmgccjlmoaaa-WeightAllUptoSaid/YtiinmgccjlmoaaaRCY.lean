/- Walks: tree's paths, Paths. -/
import Derived.Test.YtiinmgccjlmoaaaRCX
namespace Go.Proofs.Ytiinmgccjlmoaaa
open Go.RowKit Go.Redl
set_option linter.unusedVariables false

/-- A list of paths, made by the call. -/
def ListP (W : World) (L : List (List Int)) (e : Ending) (w' : World) : Prop :=
  ∃ a c cs, e = .returned (.slice a L.length c) ∧ RowQ w' (fun b => W.heap.size ≤ b) 1 a L.length c cs ∧ PathsQ w' (fun b => W.heap.size ≤ b) L cs ∧ Below W.heap.size W w'

/-- The same, its row its own. -/
def ListO (W : World) (L : List (List Int)) (e : Ending) (w' : World) : Prop :=
  ∃ v cs, e = .returned v ∧ w'.ownsRow W.heap.size 36 1 v L.length cs ∧ PathsQ w' (fun b => W.heap.size ≤ b ∧ v.ownBlock ≠ some b) L cs ∧ Below W.heap.size W w'
theorem ListO.p {W : World} {L : List (List Int)} {e : Ending} {w' : World} (h : ListO W L e w') : ListP W L e w' := by
  obtain ⟨v, cs, rfl, h1, h2, h3⟩ := h
  obtain ⟨a, c, rfl, hq⟩ := rowq_own h1 h2.one
  exact ⟨a, c, cs, rfl, hq, h2.keep (Nat.le_refl _) (fun _ _ _ => rfl) (fun b hb _ => hb.1), h3⟩
theorem own_from {w : World} {M M' e sz n : Nat} {v : Value} {cs : List Value} (h : w.ownsRow M e sz v n cs) (hM : M' ≤ M) : w.ownsRow M' e sz v n cs := by
  obtain ⟨hl, h2⟩ := h
  exact ⟨hl, h2.imp id fun ⟨g, cap, cur, hv, hb, hr⟩ => ⟨g, cap, cur, hv, by omega, hr⟩⟩

set_option maxRecDepth 100000 in
set_option maxHeartbeats 2000000 in
theorem pathsO_c {cb MX : Nat} {caps : Array Value} {want : NodeD → Bool} (hcb : ∀ args w, (callFunc cb args).run Try.prog w = .ok (.enter cb args) w) (n : NodeD) (v : Value) (W : World) (hA : WantC W.heap.size cb caps want MX) (hMX : n.wt ≤ MX) (hw : n.wt ≤ 100000000) (hv : NodeV W W.heap.size n v) :
    Calls Try.prog 47 #[v, .func (.func cb) #[] caps] W (ListO W (pathsW want n [])) := by
  have hv0 := hv
  obtain ⟨lf, ps, t, ks⟩ := n
  obtain ⟨ap, cp, at_, ct, ak, ck, css, rfl, -, -, -, -⟩ := hv0.open
  generalize NodeD.mk lf ps t ks = n at hv hMX hw ⊢
  obtain ⟨tb, htb⟩ : ∃ tb, tb = W.heap.size + 1 := ⟨_, rfl⟩
  obtain ⟨ob, hob⟩ : ∃ ob, ob = tb + 1 := ⟨_, rfl⟩
  obtain ⟨eb, heb⟩ : ∃ eb, eb = ob + 1 := ⟨_, rfl⟩
  obtain ⟨w0, hw0⟩ : ∃ w0, w0 = (((W.alloc (Obj.cells #[.bool lf, .slice ap ps.length cp, .slice at_ t.length ct, .slice ak ks.length ck] 35)).alloc (Obj.cells #[.func (.func cb) #[] caps] 87)).alloc (Obj.cells #[.slice none 0 0] 44)).alloc (Obj.cells #[.nilFunc] 126) := ⟨_, rfl⟩
  have hb0 : Below W.heap.size W w0 := by
    rw [hw0]
    exact ((((Below.refl _ _).alloc (Nat.le_refl _) _).alloc (by simp) _).alloc (by simp; omega) _).alloc (by simp; omega) _
  have hs0 : w0.heap.size = W.heap.size + 4 := by rw [hw0]; simp
  have h0 : NodeAt w0 W.heap.size (.bool lf) (.slice ap ps.length cp) (.slice at_ t.length ct) (.slice ak ks.length ck) := by
    rw [hw0]
    exact (((NodeAt.fresh W _ _ _ _).alloc _).alloc _).alloc _
  have ht : w0.heap[tb]? = some (Obj.cells #[.func (.func cb) #[] caps] 87 (0, 0)) := by
    rw [hw0, Lib.alloc_old _ _ _ (by simp; omega), Lib.alloc_old _ _ _ (by simp; omega), htb]
    simpa using heap_alloc_new (W.alloc (Obj.cells #[.bool lf, .slice ap ps.length cp, .slice at_ t.length ct, .slice ak ks.length ck] 35)) (Obj.cells #[.func (.func cb) #[] caps] 87)
  have ho : w0.heap[ob]? = some (Obj.cells #[.slice none 0 0] 44 (0, 0)) := by
    rw [hw0, Lib.alloc_old _ _ _ (by simp; omega), hob, htb]
    simpa using heap_alloc_new ((W.alloc (Obj.cells #[.bool lf, .slice ap ps.length cp, .slice at_ t.length ct, .slice ak ks.length ck] 35)).alloc (Obj.cells #[.func (.func cb) #[] caps] 87)) (Obj.cells #[.slice none 0 0] 44)
  have he : w0.heap[eb]? = some (Obj.cells #[.nilFunc] 126 (0, 0)) := by
    rw [hw0, heb, hob, htb]
    simpa using heap_alloc_new (((W.alloc (Obj.cells #[.bool lf, .slice ap ps.length cp, .slice at_ t.length ct, .slice ak ks.length ck] 35)).alloc (Obj.cells #[.func (.func cb) #[] caps] 87)).alloc (Obj.cells #[.slice none 0 0] 44)) (Obj.cells #[.nilFunc] 126)
  have c0 : w0.cell? ⟨eb, 0, none⟩ = some .nilFunc := by rw [cell_of_row _ _ _ _ _ _ he]; rfl
  have c1 : w0.frozen? ⟨eb, 0, none⟩ = false := Lib.frozen_of_heap he _
  obtain ⟨w1, hw1⟩ : ∃ w1, w1 = w0.setCell ⟨eb, 0, none⟩ (.func (.func 82) #[] #[.pointer (some ⟨tb, 0, none⟩), .pointer (some ⟨ob, 0, none⟩), .pointer (some ⟨eb, 0, none⟩)]) := ⟨_, rfl⟩
  have hs1 : w1.heap.size = W.heap.size + 4 := by rw [hw1, ← hs0]; simp [World.setCell]
  have hb1 : Below W.heap.size W w1 := by rw [hw1]; exact hb0.setCell (p := ⟨eb, 0, none⟩) (by show W.heap.size ≤ eb; omega) _
  have h1 : NodeAt w1 W.heap.size (.bool lf) (.slice ap ps.length cp) (.slice at_ t.length ct) (.slice ak ks.length ck) := by rw [hw1]; exact h0.set (by omega)
  have hbx : BoxesAt w1 tb ob eb cb caps (W.heap.size + 4) [] (.slice none 0 0) [] := by
    refine ⟨?_, ?_, ?_, World.ownsRow_nil _ _ _ _, rfl, by omega⟩
    · rw [hw1, Below.heap_setCell _ _ _ _ (by show tb ≠ eb; omega)]; exact ht
    · rw [hw1]; exact Lib.heap_setCell_same (i := 0) he _
    · rw [hw1, Below.heap_setCell _ _ _ _ (by show ob ≠ eb; omega)]; exact ho
  have HC := Lib.hid (paths1_c hcb hA (ob := ob) (M := W.heap.size + 4) (by omega) (by omega) n.wt n (.agg #[.bool lf, .slice ap ps.length cp, .slice at_ t.length ct, .slice ak ks.length ck]) [] none 0 [] (.slice none 0 0) [] w1 (Nat.le_refl _) hMX (by simp; omega) (by simp; omega) (hv.keep hb1 (Nat.le_refl _)) (by omega) hbx (RowQ.empty _ _ _))
  obtain ⟨x0, x1, x2, x3, -, xl⟩ := h1.facts
  obtain ⟨y1, y2, y3, y4, m1, m2, m3⟩ := hbx.cells
  have Hb0 := Lib.hid hb1
  have Hbx := Lib.hid hbx
  have hmf : ∀ (fn : Fn) (first cap : Array Value) (w : World), (Instr.makeFunc fn first cap).run Try.prog w = .ok (.func fn first cap) w := fun _ _ _ _ => rfl
  have hst := fun (W : World) (a : Addr) (fn : Fn) (first cap : Array Value) (m : Mode) => run_store Try.prog W a (.func fn first cap) m rfl
  clear hb0 h0 hb1 h1 hbx hv hv0 hA hMX hw ht ho he
  have H1 := Lib.hid htb; have H2 := Lib.hid hob; have H3 := Lib.hid heb; have H4 := Lib.hid hw0; have H5 := Lib.hid hw1
  have hlt : W.heap.size < tb ∧ tb < ob ∧ ob < eb := by omega
  have hcl : W.heap.size ≤ ob := by omega
  clear htb hob heb hw0 hw1 hs0
  go_enter Try.func47, Try.ntmps47
  go_upto_region 3 with fail
  rw [← H4.out, ← H1.out, ← H2.out, ← H3.out]
  clear H1 H2 H3 H4
  go_upto_region 4 with fail
  rw [← H5.out]
  clear H5 c0 c1
  go_wp2_with fail
  refine HC.out.mono ?_
  rintro e w1 ⟨rfl, ov, cs, hbx1, hgr⟩
  have Hown := Lib.hid hbx1.own; have Hrows := Lib.hid hbx1.rows
  obtain ⟨a, c, rfl, hq⟩ := rowq_own hbx1.own hbx1.rows.one
  have Hq := Lib.hid hq
  obtain ⟨z1, z2, z3, z4, n1, n2, n3⟩ := hbx1.cells
  have Hb1 := Lib.hid (Hb0.out.trans (hgr.below (B := W.heap.size) hcl (by omega) (by simp [Value.ownBlock])))
  clear hbx1 hgr hq HC x0 x1 x2 x3 y1 y2 y3 y4 Hbx hcb
  go_wp2_with fail
  go_ret
  simp only [List.nil_append] at Hown Hrows ⊢
  exact ⟨_, cs, rfl, own_from Hown.out (by omega), Hrows.out.keep (Nat.le_refl _) (fun _ _ _ => rfl) (fun b hb _ => ⟨by have := hb.1; omega, hb.2⟩), Hb1.out⟩
theorem paths_c {cb MX : Nat} {caps : Array Value} {want : NodeD → Bool} (hcb : ∀ args w, (callFunc cb args).run Try.prog w = .ok (.enter cb args) w) (n : NodeD) (v : Value) (W : World) (hA : WantC W.heap.size cb caps want MX) (hMX : n.wt ≤ MX) (hw : n.wt ≤ 100000000) (hv : NodeV W W.heap.size n v) :
    Calls Try.prog 47 #[v, .func (.func cb) #[] caps] W (ListP W (pathsW want n [])) := (pathsO_c hcb n v W hA hMX hw hv).mono fun _ _ h => h.p

theorem all1_ent : ∀ args w, (callFunc 48 args).run Try.prog w = .ok (.enter 48 args) w := by intro args w; kernel_rfl
set_option maxRecDepth 100000 in
theorem all_want (B M : Nat) : WantC B 48 #[] (fun _ => true) M := by
  intro n v W hM hv hB
  obtain ⟨lf, ps, t, ks⟩ := n
  obtain ⟨ap, cp, at_, ct, ak, ck, css, rfl, -, -, -, -⟩ := hv.open
  have hb0 := (Below.refl W.heap.size W).alloc (Nat.le_refl _) (Obj.cells #[.bool lf, .slice ap ps.length cp, .slice at_ t.length ct, .slice ak ks.length ck] 35)
  clear hv hM
  show Calls Try.prog 48 #[.agg #[.bool lf, .slice ap ps.length cp, .slice at_ t.length ct, .slice ak ks.length ck]] W _
  go_enter Try.func48, Try.ntmps48
  go_wp2_with fail
  go_ret
  exact ⟨rfl, hb0⟩

set_option maxRecDepth 100000 in
set_option maxHeartbeats 1000000 in
/-- All paths of a tree. -/
theorem allO_c (n : NodeD) (v : Value) (W : World) (hw : n.wt ≤ 100000000) (hv : NodeV W W.heap.size n v) :
    Calls Try.prog 17 #[v] W (ListO W (pathsW (fun _ => true) n [])) := by
  have hv0 := hv
  obtain ⟨lf, ps, t, ks⟩ := n
  obtain ⟨ap, cp, at_, ct, ak, ck, css, rfl, -, -, -, -⟩ := hv0.open
  generalize NodeD.mk lf ps t ks = n at hv hw ⊢
  have hb0 := (Below.refl W.heap.size W).alloc (Nat.le_refl _) (Obj.cells #[.bool lf, .slice ap ps.length cp, .slice at_ t.length ct, .slice ak ks.length ck] 35)
  have HC := Lib.hid (pathsO_c all1_ent n _ _ (all_want _ n.wt) (Nat.le_refl _) hw (hv.keep hb0 hb0.size))
  have Hb0 := Lib.hid hb0
  clear hb0 hv hv0 hw
  go_enter Try.func17, Try.ntmps17
  go_wp2_with fail
  refine HC.out.mono ?_
  rintro e w1 ⟨u, cs, rfl, hq, hp, hb⟩
  have Hq := Lib.hid hq; have Hp := Lib.hid hp; have Hb := Lib.hid (Hb0.out.trans (hb.mono Hb0.out.size))
  have hs := Hb0.out.size
  obtain ⟨a, c, hu, -⟩ := rowq_own hq hp.one
  subst hu
  clear hq hp hb HC
  go_wp2_with fail
  go_ret
  exact ⟨_, cs, rfl, own_from Hq.out hs, Hp.out.keep (Nat.le_refl _) (fun _ _ _ => rfl) (fun b hb _ => ⟨Nat.le_trans hs hb.1, hb.2⟩), Hb.out⟩
theorem all_c (n : NodeD) (v : Value) (W : World) (hw : n.wt ≤ 100000000) (hv : NodeV W W.heap.size n v) :
    Calls Try.prog 17 #[v] W (ListP W (pathsW (fun _ => true) n [])) := (allO_c n v W hw hv).mono fun _ _ h => h.p

end Go.Proofs.Ytiinmgccjlmoaaa
