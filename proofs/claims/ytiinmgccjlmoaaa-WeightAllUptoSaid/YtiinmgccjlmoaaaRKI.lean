/- Walks: dirty's elements; rows of paths that are read, and copied; a path put behind a row. -/
import Derived.Test.YtiinmgccjlmoaaaRKH
import Derived.Test.YtiinmgccjlmoaaaRCY
namespace Go.Proofs.Ytiinmgccjlmoaaa
open Go.RowKit Go.Redl
set_option linter.unusedVariables false

theorem pxs_filter (xs : List PX) (f : List Int → Bool) : pxs (xs.filter fun x => !!f x.1) = (pxs xs).filter f := by
  simp only [Bool.not_not]
  rw [List.filter_map]
  rfl
theorem elements_ent : ∀ args w, (callFunc 46 args).run Try.prog w = .ok (.enter 46 args) w := by intro args w; kernel_rfl
set_option maxRecDepth 100000 in
set_option maxHeartbeats 1000000 in
theorem elements_c (n : NodeD) (v : Value) (B M L : Nat) (vx : Value) (xs : List PX) (W : World) (hbig : n.wt ≤ 100000000) (hv : NodeV W B n v) (hB : B ≤ W.heap.size) (hBM : B ≤ M) (hx : RowX W M L vx xs) (hn : xs.length ≤ 100000000) :
    Calls Try.prog 46 #[v, vx] W (InP W M L vx xs (setL ((pxs xs).filter (isElem n)))) := by
  have hv0 := hv
  obtain ⟨lf, ps, t, ks⟩ := n
  obtain ⟨ap, cp, at_, ct, ak, ck, css, rfl, -, -, -, -⟩ := hv0.open
  generalize NodeD.mk lf ps t ks = n at hv hbig ⊢
  obtain ⟨w0, hw0⟩ : ∃ w0, w0 = W.alloc (Obj.cells #[.bool lf, .slice ap ps.length cp, .slice at_ t.length ct, .slice ak ks.length ck] 35) := ⟨_, rfl⟩
  have hb0 : Below W.heap.size W w0 := by rw [hw0]; exact one_below _ _
  have hA : At w0 W.heap.size [.bool lf, .slice ap ps.length cp, .slice at_ t.length ct, .slice ak ks.length ck] 35 := by rw [hw0]; exact At.fresh W _ _
  have hx0 := hx.below hb0
  have HD := Lib.hid (delx_c 81 #[.pointer (some ⟨W.heap.size, 0, none⟩)] (fun x => !isElem n x.1) M L vx xs w0 elem1_ent hx0 hn fun x hx' W' hg => by
    obtain ⟨x0, xa, xc⟩ := x
    have hne : some W.heap.size ≠ vx.ownBlock := fun e => by have := (hx.own.lt _ e.symm).2; omega
    have hA' : At W' W.heap.size [.bool lf, .slice ap ps.length cp, .slice at_ t.length ct, .slice ak ks.length ck] 35 := by
      unfold At; rw [hg.block _ hA.lt hne]; exact hA
    have hb' : Below B w0 W' := hg.old (Nat.le_trans hB hb0.size) fun k hk => Nat.le_trans hBM (hx0.ge k hk)
    have hb2 : Below B W W' := (hb0.mono hB).trans hb'
    exact elem1_c n _ _ _ _ W.heap.size x0 xa xc W' hbig (hv.keep hb2 (Nat.le_trans hB hb2.size)) hA' (PxQ.own (hx0.all _ hx') hg).row)
  have HS := Lib.hid (fun (w1 : World) (v' : Value) (hz : RowX w1 M L v' (xs.filter fun x => !(fun x : PX => !isElem n x.1) x)) => set_c M L v' _ w1 hz (Nat.le_trans (List.length_filter_le _ _) hn))
  obtain ⟨fs, hfs⟩ : ∃ fs, fs = xs.filter fun x => !(fun x : PX => !isElem n x.1) x := ⟨_, rfl⟩
  rw [← hfs] at HD HS
  have Hfs := Lib.hid hfs
  have hmf : ∀ (fn : Fn) (first cap : Array Value) (w : World), (Instr.makeFunc fn first cap).run Try.prog w = .ok (.func fn first cap) w := fun _ _ _ _ => rfl
  have Hb0 := Lib.hid hb0; have Hw0 := Lib.hid hw0
  obtain ⟨a, c, hvx⟩ := hx.form
  subst hvx
  clear hv hv0 hbig hb0 hw0 hA hx hx0 hB hBM hfs
  go_enter Try.func46, Try.ntmps46
  go_upto_region 1 with fail
  rw [← Hw0.out]
  clear Hw0
  go_wp2_with fail
  refine HD.out.mono ?_
  rintro e w1 ⟨v', rfl, hz, hk, hg⟩
  have HS1 := Lib.hid (HS.out w1 v' hz)
  obtain ⟨a', c', hv'⟩ := hz.form
  subst hv'
  have Hk := Lib.hid hk; have Hg := Lib.hid hg
  clear HD HS hz hk hg
  go_wp2_with fail
  refine HS1.out.mono ?_
  rintro e w2 ⟨v2, ys, rfl, hy, hp, hm, hk, hg⟩
  obtain ⟨a2, c2, hv2⟩ := hy.form
  subst hv2
  have Hy := Lib.hid hy; have Hp := Lib.hid hp; have Hm := Lib.hid hm; have Hk2 := Lib.hid hk; have Hg2 := Lib.hid hg
  clear HS1 hy hp hm hk hg
  go_wp2_with fail
  go_ret
  refine ⟨_, ys, rfl, Hy.out, ?_, fun x hx => (List.mem_filter.1 (Hfs.out ▸ Hm.out x hx)).1, fun k hk => Hk.out k (Hk2.out k hk), ?_⟩
  · rw [Hp.out, Hfs.out, pxs_filter]
  · refine (grown_of_below Hb0.out).trans (Hg.out.trans ?_)
    refine ⟨Hg2.out.os, Hg2.out.tape, Hg2.out.output, Hg2.out.size, fun k hk hne => Hg2.out.block k hk fun e => hne ?_⟩
    rw [Hk.out k e.symm]

end Go.Proofs.Ytiinmgccjlmoaaa
