/- Walks: dirty's set, elements; a row of paths copied. -/
import Derived.Test.YtiinmgccjlmoaaaRKG
import Derived.Test.YtiinmgccjlmoaaaRCQ
import Derived.Test.YtiinmgccjlmoaaaRHA
namespace Go.Proofs.Ytiinmgccjlmoaaa
open Go.RowKit Go.Redl
set_option linter.unusedVariables false

theorem PxQ.own {w w' : World} {r : Option Nat} {L : Nat} {x : PX} (h : PxQ w (fun k => L ≤ k ∧ r ≠ some k) x) (hg : w.grownBy w' r) : PxQ w' (fun k => L ≤ k ∧ r ≠ some k) x :=
  RowQ.keep h hg.size (fun k hk hlt => hg.block k hlt (fun e => hk.2 e.symm)) (fun _ h _ => h)
/-- What is done with a row in its own place. -/
def InP (W : World) (M L : Nat) (v : Value) (xs : List PX) (l : List (List Int)) (e : Ending) (w' : World) : Prop :=
  ∃ v' ys, e = .returned v' ∧ RowX w' M L v' ys ∧ pxs ys = l ∧ (∀ x ∈ ys, x ∈ xs) ∧ (∀ k, v'.ownBlock = some k → v.ownBlock = some k) ∧ W.grownBy w' v.ownBlock
theorem tuple_nil_ret {P : Ending → Prop} (h : P (.returned (.tuple #[]))) : P (.returned (.tuple #[])) := h
theorem cmpx_ent : ∀ args w, (callFunc 77 args).run Try.prog w = .ok (.enter 77 args) w := by intro args w; kernel_rfl
theorem delx_ent : ∀ args w, (callFunc 80 args).run Try.prog w = .ok (.enter 80 args) w := by intro args w; kernel_rfl
theorem set_ent : ∀ args w, (callFunc 42 args).run Try.prog w = .ok (.enter 42 args) w := by intro args w; kernel_rfl

set_option maxRecDepth 100000 in
set_option maxHeartbeats 1000000 in
theorem set_c (M L : Nat) (v : Value) (xs : List PX) (W : World) (hx : RowX W M L v xs) (hn : xs.length ≤ 100000000) : Calls Try.prog 42 #[v] W (InP W M L v xs (setL (pxs xs))) := by
  have HS := Lib.hid (sortx_c M L v xs W hx hn)
  have HC := Lib.hid (fun (w1 : World) (ys : List PX) (hp : ys.Perm xs) (hy : RowX w1 M L v ys) => cmpx_c 78 (fun x y => decide (x.1 = y.1)) M L v ys w1 tsame_ent hy (by rw [hp.length_eq]; exact hn) fun x hx' y hy' W' hg => by
    obtain ⟨x0, xa, xc⟩ := x
    obtain ⟨y0, ya, yc⟩ := y
    exact (tsame_c x0 y0 xa ya xc yc _ W' (PxQ.own (hy.all _ hx') hg).row (PxQ.own (hy.all _ hy') hg).row).mono fun e w' hh => ⟨hh.1, hh.2.below _⟩)
  obtain ⟨a, c, rfl⟩ := hx.form
  clear hx
  go_enter Try.func42, Try.ntmps42
  go_wp2_with fail
  refine HS.out.mono ?_
  rintro e w1 ⟨rfl, ys, hp, hs, hy, hg⟩
  have HC1 := Lib.hid (HC.out w1 ys hp hy)
  have Hp := Lib.hid hp; have Hs := Lib.hid hs; have Hg := Lib.hid hg
  clear HS HC hp hs hy hg
  go_wp2_with fail
  refine HC1.out.mono ?_
  rintro e w2 ⟨v', rfl, hz, hk, hg⟩
  obtain ⟨a', c', hv'⟩ := hz.form
  have Hz := Lib.hid hz; have Hk := Lib.hid hk; have Hg2 := Lib.hid hg
  have Hv := Lib.hid hv'
  clear HC1 hz hk hg hv'
  go_wp2_with fail
  go_ret
  obtain ⟨h1, h2, h3⟩ := compU_sorted ys Hs.out ys.length (Nat.le_refl _)
  rw [List.take_length] at h2
  refine ⟨v', _, rfl, Hz.out, ?_, fun x hx => Hp.out.subset (h3 x hx), Hk.out, Hg.out.trans Hg2.out⟩
  exact setL_eq h1 fun x => by rw [h2]; exact (Hp.out.map (·.1)).mem_iff

/-- An element stands there. -/
def isElem (n : NodeD) (p : List Int) : Bool := match atN n p with
  | some k => !leafOf k
  | none => false
theorem elem1_ent : ∀ args w, (callFunc 81 args).run Try.prog w = .ok (.enter 81 args) w := by intro args w; kernel_rfl
set_option maxRecDepth 100000 in
set_option maxHeartbeats 1000000 in
theorem elem1_c (n : NodeD) (c0 c1 c2 c3 : Value) (N : Nat) (p : List Int) (pa : Option Addr) (pc : Nat) (W : World) (hbig : n.wt ≤ 100000000) (hv : NodeV W W.heap.size n (.agg #[c0, c1, c2, c3])) (hN : At W N [c0, c1, c2, c3] 35) (hp : RowA W W.heap.size 1 pa p.length pc (p.map (Value.int .i64))) :
    Calls Try.prog 81 #[.slice pa p.length pc, .pointer (some ⟨N, 0, none⟩)] W fun e w' => e = .returned (.bool (!isElem n p)) ∧ Below W.heap.size W w' := by
  have HG := Lib.hid (get_c n p _ pa pc W hbig hv hp)
  obtain ⟨⟨x0, x1, x2, x3⟩, -, xl⟩ := hN.f4
  unfold isElem
  cases hat : atN n p with
  | none =>
    rw [hat] at HG
    clear hv hN hp hat
    go_enter Try.func81, Try.ntmps81
    go_wp2_with fail
    refine HG.out.mono ?_
    rintro e w1 ⟨rfl, hbel⟩
    have Hb := Lib.hid hbel
    clear hbel HG x0 x1 x2 x3 xl
    go_wp2_with fail
    go_ret
    exact ⟨rfl, Hb.out.trans ((one_below w1 _).mono Hb.out.size)⟩
  | some k =>
    rw [hat] at HG
    clear hv hN hp hat
    go_enter Try.func81, Try.ntmps81
    go_wp2_with fail
    refine HG.out.mono ?_
    rintro e w1 ⟨cs, rfl, hq, hbel⟩
    obtain ⟨l, ps, t, ks⟩ := k
    have hq' := NodeQ.node _ _ hq
    unfold NodeC at hq'
    obtain ⟨ap, cp, at_, ct, ak, ck, css, rfl, -⟩ := hq'
    have Hb := Lib.hid hbel
    clear hbel HG x0 x1 x2 x3 xl hq
    go_wp2_with fail
    go_ret
    exact ⟨ret_bool (by simp [leafOf]), Hb.out.trans ((one_below w1 _).mono Hb.out.size)⟩

end Go.Proofs.Ytiinmgccjlmoaaa
