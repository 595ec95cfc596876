/- Plain words: rows of paths that are read; a path put behind a row. Walks: dirty's marks, Step at no operation. -/
import Derived.Test.YtiinmgccjlmoaaaRKJ
import Derived.Deep.MidRow
namespace Go.Proofs.Ytiinmgccjlmoaaa
open Go.RowKit Go.Redl
set_option linter.unusedVariables false
set_option linter.unusedSimpArgs false

/-- A row of paths that is read. -/
structure ReadX (W : World) (B : Nat) (v : Value) (xs : List PX) : Prop where
  row : ∃ a c, v = .slice a xs.length c ∧ RowA W B 1 a xs.length c (xs.map pxV)
  all : ∀ x ∈ xs, RowA W B 1 x.2.1 x.1.length x.2.2 (x.1.map (Value.int .i64))
theorem ReadX.keep {w w' : World} {B B' : Nat} {v : Value} {xs : List PX} (h : ReadX w B v xs) (hb : Below B w w') (hB : B ≤ B') : ReadX w' B' v xs := by
  obtain ⟨⟨a, c, h1, h2⟩, h3⟩ := h
  exact ⟨⟨a, c, h1, h2.keep hb hB⟩, fun x hx => (h3 x hx).keep hb hB⟩
theorem pxV_ones (xs : List PX) : ∀ u ∈ xs.map pxV, u.oneCell' = true := by
  intro u hu; obtain ⟨x, -, rfl⟩ := List.mem_map.1 hu; rfl
theorem RowX.read {w : World} {M L : Nat} {v : Value} {xs : List PX} (h : RowX w M L v xs) : ReadX w w.heap.size v xs := by
  obtain ⟨a, c, hv, hr⟩ := row_of_own h.own (pxV_ones xs)
  exact ⟨⟨a, c, hv, hr⟩, fun x hx => (h.all x hx).row⟩
theorem ReadX.at_ {w : World} {B : Nat} {a : Option Addr} {n c : Nat} {xs : List PX} (h : ReadX w B (.slice a n c) xs) (k : Nat) (hk : k < xs.length) :
    ∃ b off, a = some ⟨b, off, none⟩ ∧ b < B ∧ w.cell? ⟨b, off + k, none⟩ = some (pxV xs[k]) := by
  obtain ⟨⟨a', c', hv, hr⟩, -⟩ := h
  injection hv with e1 e2 e3; subst e1
  obtain ⟨b, off, ha, hb, hc⟩ := hr.some_ (by intro e; simp at e; subst e; simp at hk)
  exact ⟨b, off, ha, hb, hc k _ (by simp [List.getElem?_eq_getElem hk])⟩

/-- One more path put in. -/
theorem RowX.push {M L : Nat} {w0 w' : World} {v v' : Value} {xs : List PX} {y : PX} {ob : Obj} (h : RowX w0 M L v xs) (hy : PxQ w0 (fun b => L ≤ b ∧ v.ownBlock ≠ some b) y)
    (hg : (w0.alloc ob).grownBy w' v.ownBlock) (hown : w'.ownsRow M 36 1 v' (xs.length + 1) (xs.map pxV ++ [pxV y])) (hw : v'.ownBlock = v.ownBlock ∨ ∀ k, v'.ownBlock = some k → (w0.alloc ob).heap.size ≤ k) : RowX w' M L v' (xs ++ [y]) := by
  have hs := hg.size
  have hall : ∀ x ∈ xs ++ [y], PxQ w0 (fun b => L ≤ b ∧ v.ownBlock ≠ some b) x := fun x hx => by
    rcases List.mem_append.1 hx with hx | hx
    · exact h.all x hx
    · rw [List.mem_singleton.1 hx]; exact hy
  refine ⟨by rw [List.length_append, List.map_append]; exact hown, fun x hx => (hall x hx).keep (by simp at hs; omega) (fun b hb hlt => ?_) fun b hb hlt => ⟨hb.1, ?_⟩⟩
  · rw [hg.block b (by simp; omega) (fun e => hb.2 e.symm), Lib.alloc_old _ _ _ hlt]
  · rcases hw with e | e
    · rw [e]; exact hb.2
    · intro e2; have := e b e2; simp at this; omega
theorem wpList_pushx {P : Program} {ops : Array Oper} {rest : List Oper} {o : Oper} {a : Act} {w0 : World} {Q : Exit → Act → World → Prop} {ob : Obj}
    (hg : o.guard = none) (s x : Operand) (ho : o.op = .call { callee := .builtin .append, args := #[s, x], argTypes := #[44, 44] })
    (ht : P.underlying 44 = some (.slice 36)) (hi : (P.info? 36).map (fun i => (i.zero, i.size, i.bytes)) = some (some (.slice none 0 0), 1, 24))
    (M L : Nat) (v : Value) (xs : List PX) (hs : a.eval s = v) (hO : RowX w0 M L v xs) (y : PX) (hob : ob = .cells #[pxV y] 36) (hx : a.eval x = .slice (some ⟨w0.heap.size, 0, none⟩) 1 1)
    (hq : PxQ w0 (fun b => L ≤ b ∧ v.ownBlock ≠ some b) y) (hn : xs.length ≤ 100000000) (hM : M ≤ w0.heap.size)
    (h : ∀ v' w', RowX w' M L v' (xs ++ [y]) → Below M w0 w' → wpList P ops Q rest (a.put o.dst v') w') : wpList P ops Q (o :: rest) a (w0.alloc ob) := by
  subst hob
  refine wpList_app2 hg s x 44 ho M 36 (.slice none 0 0) 1 24 ht hi rfl (by decide) v xs.length (xs.map pxV) hs (own_keep hO.own (one_below _ _)) ⟨w0.heap.size, 0, none⟩ 1 1 (w0.heap.size + 1) [pxV y] hx (row_one w0 (pxV y) 36 _ rfl (by omega)) (by unfold maxLen; omega) (by omega) (by simp; omega) fun v' w' hown hgrow hwh => ?_
  exact h v' w' (RowX.push hO hq hgrow hown hwh) (((Below.refl M w0).alloc hM _).grown hgrow (by simp; omega) (fun k hk => hO.ge k hk))

set_option maxRecDepth 100000 in
set_option maxHeartbeats 400000 in
theorem clone_path (B n : Nat) (a : Option Addr) (cap : Nat) (cs : List Value) (w : World) (hr : RowA w B 1 a n cap cs) (hB : B ≤ w.heap.size) (hn : n ≤ 100000000) :
    Calls Try.prog 43 #[.slice a n cap] w (MadeRow w 36 1 n cs) := by
  have hel := fun (w : World) => Lib.run_eql_slice_nil w (P := Try.prog) 44 36 a n cap 0 0 Try.underlying44
  cases ha : a with
  | none =>
    subst ha
    obtain rfl := hr.nil rfl
    obtain rfl : n = 0 := by have := hr.le; omega
    have hcs : cs = [] := List.eq_nil_of_length_eq_zero (by simpa using hr.len)
    subst hcs
    go_enter Try.func43, Try.ntmps43
    go_wp2_with fail
    go_ret
    exact ⟨_, rfl, World.ownsRow_nil _ _ _ _, Below.refl _ _⟩
  | some ad =>
    subst ha
    go_enter Try.func43, Try.ntmps43
    go_wp2_with (at_builtin; refine wpList_app rfl _ _ 44 rfl w.heap.size 36 (.slice none 0 0) 1 24 Try.underlying44 info_slc rfl (by decide) _ 0 [] rfl ?hown _ n cap B cs rfl ?hr ?h63 ?hb ?hbase ?_)
    case hown => exact World.ownsRow_lit w #[] 0 (Nat.le_refl _) (Nat.zero_le _) rfl
    case hr => exact hr.keep ((Below.refl _ _).alloc hB _) (Nat.le_refl _)
    case h63 => unfold maxLen; omega
    case hb => omega
    case hbase => simp
    intro v' w1 hown hgrow
    have Ho := Lib.hid hown; have Hg := Lib.hid hgrow; clear hown hgrow hel hr
    go_wp2_with fail
    go_ret
    refine ⟨v', rfl, by simpa using Ho.out, ((Below.refl _ _).alloc (Nat.le_refl _) _).grown Hg.out (by simp) ?_⟩
    simp [Value.ownBlock]

theorem clp_path_ent : ∀ args w, (callFunc 43 args).run Try.prog w = .ok (.enter 43 args) w := by intro args w; kernel_rfl

theorem marks_ent : ∀ args w, (callFunc 73 args).run Try.prog w = .ok (.enter 73 args) w := by intro args w; kernel_rfl
set_option maxRecDepth 100000 in
set_option maxHeartbeats 1000000 in
theorem marks0_c (c0 c1 c2 c3 : Value) (W : World) : Calls Try.prog 73 #[.agg #[c0, c1, c2, c3], .agg #[.int .i64 0, .slice none 0 0, .slice none 0 0, .int .i64 0, .bool false, .slice none 0 0, .slice none 0 0, .slice none 0 0, .slice none 0 0, .slice none 0 0, .slice none 0 0, .bool false, .slice none 0 0, .int .i64 0, .slice none 0 0, .int .i64 0, .bool false, .slice none 0 0, .int .i64 0, .slice none 0 0, .int .i64 0]] W fun e w' => e = .returned (.slice none 0 0) ∧ Below W.heap.size W w' := by
  obtain ⟨w0, hw0⟩ : ∃ w0, w0 = (W.alloc (Obj.cells #[c0, c1, c2, c3] 35)).alloc (Obj.cells #[.int .i64 0, .slice none 0 0, .slice none 0 0, .int .i64 0, .bool false, .slice none 0 0, .slice none 0 0, .slice none 0 0, .slice none 0 0, .slice none 0 0, .slice none 0 0, .bool false, .slice none 0 0, .int .i64 0, .slice none 0 0, .int .i64 0, .bool false, .slice none 0 0, .int .i64 0, .slice none 0 0, .int .i64 0] 62) := ⟨_, rfl⟩
  have hb0 : Below W.heap.size W w0 := by rw [hw0]; exact two_below _ _ _
  have hA : At w0 (W.heap.size + 1) [.int .i64 0, .slice none 0 0, .slice none 0 0, .int .i64 0, .bool false, .slice none 0 0, .slice none 0 0, .slice none 0 0, .slice none 0 0, .slice none 0 0, .slice none 0 0, .bool false, .slice none 0 0, .int .i64 0, .slice none 0 0, .int .i64 0, .bool false, .slice none 0 0, .int .i64 0, .slice none 0 0, .int .i64 0] 62 := by rw [hw0]; exact At.second W _ _ _
  have k0 := hA.cell 0 rfl; have kl := hA.lt
  have Hb0 := Lib.hid hb0; have Hw0 := Lib.hid hw0
  have hmf : ∀ (fn : Fn) (first cap : Array Value) (w : World), (Instr.makeFunc fn first cap).run Try.prog w = .ok (.func fn first cap) w := fun _ _ _ _ => rfl
  have hst := fun (W : World) (a : Addr) (fn : Fn) (first cap : Array Value) (m : Mode) => run_store Try.prog W a (.func fn first cap) m rfl
  clear hb0 hA hw0
  go_enter Try.func73, Try.ntmps73
  go_upto_region 1 with fail
  rw [← Hw0.out]
  clear Hw0
  go_wp2_with fail
  go_ret
  exact ⟨rfl, Hb0.out.trans ((one_below w0 _).mono Hb0.out.size)⟩

/-- A whole box, loaded. -/
theorem ldx {P : Program} {w : World} {N : Nat} {cs : List Value} {T : TypeId} {d : TypeDesc} (h : At w N cs T) (hu : P.underlying T = some d) (hd : d.isRow = true) (hi : (P.info? T).map (·.size) = some cs.length) : (Instr.loadAt T (.pointer (some ⟨N, 0, none⟩))).run P w = .ok (.agg cs.toArray) w :=
  run_loadAt_mid w N 0 T cs d (fun j v hj => by rw [Nat.zero_add]; exact h.cell j hj) hu hd hi
theorem step_ent : ∀ args w, (callFunc 41 args).run Try.prog w = .ok (.enter 41 args) w := by intro args w; kernel_rfl
set_option maxRecDepth 100000 in
set_option maxHeartbeats 2000000 in
theorem step0_c (n : NodeD) (v : Value) (B : Nat) (vx : Value) (xs : List PX) (W : World) (hbig : n.wt ≤ 100000000) (hv : NodeV W B n v) (hB : B ≤ W.heap.size) (hx : ReadX W B vx xs) (hn : xs.length ≤ 100000000) (hnp : ∀ x ∈ xs, x.1.length ≤ 100000000) :
    Calls Try.prog 41 #[v, vx, .agg #[.int .i64 0, .slice none 0 0, .slice none 0 0, .int .i64 0, .bool false, .slice none 0 0, .slice none 0 0, .slice none 0 0, .slice none 0 0, .slice none 0 0, .slice none 0 0, .bool false, .slice none 0 0, .int .i64 0, .slice none 0 0, .int .i64 0, .bool false, .slice none 0 0, .int .i64 0, .slice none 0 0, .int .i64 0]] W (ListX W (setL (((pxs xs).filter smallB1).filter (isElem n)))) := by
  have hv0 := hv
  obtain ⟨lf, ps, t, ks⟩ := n
  obtain ⟨ap, cp, at_, ct, ak, ck, css, rfl, -, -, -, -⟩ := hv0.open
  generalize NodeD.mk lf ps t ks = n at hv hbig ⊢
  obtain ⟨w0, hw0⟩ : ∃ w0, w0 = (W.alloc (Obj.cells #[.bool lf, .slice ap ps.length cp, .slice at_ t.length ct, .slice ak ks.length ck] 35)).alloc (Obj.cells #[.int .i64 0, .slice none 0 0, .slice none 0 0, .int .i64 0, .bool false, .slice none 0 0, .slice none 0 0, .slice none 0 0, .slice none 0 0, .slice none 0 0, .slice none 0 0, .bool false, .slice none 0 0, .int .i64 0, .slice none 0 0, .int .i64 0, .bool false, .slice none 0 0, .int .i64 0, .slice none 0 0, .int .i64 0] 62) := ⟨_, rfl⟩
  have hb0 : Below W.heap.size W w0 := by rw [hw0]; exact two_below _ _ _
  have hO : At w0 (W.heap.size + 1) [.int .i64 0, .slice none 0 0, .slice none 0 0, .int .i64 0, .bool false, .slice none 0 0, .slice none 0 0, .slice none 0 0, .slice none 0 0, .slice none 0 0, .slice none 0 0, .bool false, .slice none 0 0, .int .i64 0, .slice none 0 0, .int .i64 0, .bool false, .slice none 0 0, .int .i64 0, .slice none 0 0, .int .i64 0] 62 := by rw [hw0]; exact At.second W _ _ _
  have hA : At w0 W.heap.size [.bool lf, .slice ap ps.length cp, .slice at_ t.length ct, .slice ak ks.length ck] 35 := by rw [hw0]; exact (At.fresh W _ _).alloc _
  have hld := fun (w' : World) (h : At w' (W.heap.size + 1) [.int .i64 0, .slice none 0 0, .slice none 0 0, .int .i64 0, .bool false, .slice none 0 0, .slice none 0 0, .slice none 0 0, .slice none 0 0, .slice none 0 0, .slice none 0 0, .bool false, .slice none 0 0, .int .i64 0, .slice none 0 0, .int .i64 0, .bool false, .slice none 0 0, .int .i64 0, .slice none 0 0, .int .i64 0] 62) => ldx (P := Try.prog) h Try.underlying62 rfl (by kernel_rfl)
  simp [go_sem] at hld
  obtain ⟨a, c, rfl, -⟩ := hx.row
  have HM := Lib.hid (fun (w1 : World) => marks0_c (.bool lf) (.slice ap ps.length cp) (.slice at_ t.length ct) (.slice ak ks.length ck) w1)
  have HE := Lib.hid (fun (w1 : World) (hb : Below W.heap.size W w1) (u : Value) (ys : List PX) (hy : RowX w1 W.heap.size W.heap.size u ys) (hl : ys.length ≤ 100000000) => elements_c n _ B W.heap.size W.heap.size u ys w1 hbig (hv.keep (hb.mono hB) (Nat.le_refl _)) (Nat.le_trans hB hb.size) hB hy hl)
  have HV := Lib.hid (fun (w1 : World) (hb : Below W.heap.size W w1) (x : PX) (hx' : x ∈ xs) => move0_c x.1 x.2.1 x.2.2 B w1 ((hx.all x hx').keep (hb.mono hB) (Nat.le_refl _)) (Nat.le_trans hB hb.size) (hnp x hx'))
  have HX := Lib.hid hx
  have HO := Lib.hid hO; have HA := Lib.hid hA; have Hb0 := Lib.hid hb0; have Hw0 := Lib.hid hw0; have HB := Lib.hid hB
  obtain ⟨⟨x0, x1, x2, x3⟩, -, xl⟩ := hA.f4
  have hS := hld w0 hO
  clear hv hv0 hbig hb0 hO hA hw0 hx hnp hB
  go_enter Try.func41, Try.ntmps41
  go_upto_region 1 with fail
  rw [← Hw0.out]
  clear Hw0
  go_wp2_with fail
  refine (HM.out w0).mono ?_
  rintro e w1 ⟨rfl, hbel⟩
  have HA1 := Lib.hid (HA.out.kept hbel); have HO1 := Lib.hid (HO.out.kept hbel)
  have Hb1 := Lib.hid (Hb0.out.trans (hbel.mono Hb0.out.size))
  have Hs0 := Lib.hid Hb0.out.size
  have Hs1 := Lib.hid hbel.size
  clear hbel HM x0 x1 x2 x3 xl hS HA HO
  go_wp2_with fail
  go_loopg [17, 7] xs.length (fun g i o wr => ∃ (k : Nat) (ys : List PX), i = .int .i64 k ∧ k + g = xs.length ∧ ys.length ≤ k ∧ Hid (pxs ys = (pxs (xs.take k)).filter smallB1) ∧ Hid (RowX wr w1.heap.size w1.heap.size o ys) ∧ Hid (Below w1.heap.size w1 wr))
  case atStart => exact ⟨0, [], rfl, by omega, by simp, (show pxs [] = (pxs (xs.take 0)).filter smallB1 by simp), RowX.nil _ _ _, Below.refl _ _⟩
  case round =>
    obtain ⟨k, ys, rfl, hg, hyk, hys, hy, hbr⟩ := hrel
    obtain ⟨oa, oc, ho⟩ := hy.out.form
    subst ho
    have Hbw := Lib.hid (Hb1.out.trans (hbr.out.mono (Nat.le_trans Hs0.out Hs1.out)))
    by_cases hlt : k < xs.length
    · have hlti : (k : Int) < xs.length := by omega
      obtain ⟨b, off, rfl, hb, hc⟩ := (HX.out.keep (Hbw.out.mono HB.out) (Nat.le_refl _)).at_ k hlt
      have HV1 := Lib.hid (HV.out wr Hbw.out xs[k] (List.getElem_mem hlt))
      have Hst := Lib.hid (show xs.take (k + 1) = xs.take k ++ [xs[k]] from List.take_succ_eq_append_getElem hlt)
      have hS := hld wr (HO1.out.kept hbr.out)
      generalize xs[k] = x at hc HV1 Hst
      obtain ⟨x0, xa, xc⟩ := x
      unfold pxV at hc
      simp only at hc HV1
      cases hsm : smallB1 x0 with
      | false =>
        have Hsm := Lib.hid hsm
        clear hsm
        go_wp2_with fail
        refine HV1.out.mono ?_
        rintro e w2 ⟨hbel, hm⟩
        rw [Hsm.out] at hm
        simp only [Bool.false_eq_true, if_false] at hm
        subst hm
        have Hb2 := Lib.hid (below_and hbr.out hbel)
        have Hy2 := Lib.hid (hy.out.below hbel)
        clear hbel HV1 hc hS
        go_wp2_with fail
        go_roundg (xs.length - (k + 1))
        case measure => omega
        case rel =>
          refine ⟨k + 1, ys, by go_num, by omega, by omega, ?_, Hy2, Hb2⟩
          show pxs ys = (pxs (xs.take (k + 1))).filter smallB1
          rw [Hst.out, pxs_append, pxs_one, List.filter_append, List.filter_cons_of_neg (by simp [Hsm.out]), List.filter_nil, List.append_nil]
          exact hys.out
      | true =>
        have Hsm := Lib.hid hsm
        clear hsm
        go_wp2_with fail
        refine HV1.out.mono ?_
        rintro e w2 ⟨hbel, hm⟩
        rw [Hsm.out] at hm
        simp only [if_true] at hm
        obtain ⟨mv, rfl, hown⟩ := hm
        obtain ⟨va, vc, rfl, hq⟩ := rowq_own hown (ints_one .i64 x0)
        have Hb2 := Lib.hid (below_and hbr.out hbel)
        have Hy2 := Lib.hid (hy.out.below hbel)
        have Hq := Lib.hid (show PxQ w2 (fun b => w1.heap.size ≤ b ∧ (Value.slice oa ys.length oc).ownBlock ≠ some b) (x0, va, vc) from rowq_imp hq fun b hb => ⟨Nat.le_trans hbr.out.size hb, fun e => by have := (hy.out.own.lt b e).2; omega⟩)
        have Hws := Lib.hid (below_and hbr.out hbel).size
        clear hbel HV1 hc hS hown hq
        go_wp2_with (at_builtin; refine wpList_pushx rfl _ _ rfl Try.underlying44 info_slc w1.heap.size w1.heap.size (Value.slice oa ys.length oc) ys rfl ?hO (x0, va, vc) rfl rfl ?hq ?hn ?hM ?_)
        case hO => exact Hy2.out
        case hq => exact Hq.out
        case hn => omega
        case hM => exact Hws.out
        intro v' w3 hy3 hb3
        have Hy3 := Lib.hid hy3; have Hb3 := Lib.hid (Hb2.out.trans hb3)
        clear hy3 hb3 Hq
        go_wp2_with fail
        go_roundg (xs.length - (k + 1))
        case measure => omega
        case rel =>
          refine ⟨k + 1, ys ++ [(x0, va, vc)], by go_num, by omega, by simp; omega, ?_, Hy3, Hb3⟩
          show pxs (ys ++ [(x0, va, vc)]) = (pxs (xs.take (k + 1))).filter smallB1
          rw [Hst.out, pxs_append, pxs_append, pxs_one, pxs_one, List.filter_append, List.filter_cons_of_pos (by simp [Hsm.out]), List.filter_nil, ← hys.out]
    · obtain rfl : k = xs.length := by omega
      have Hfin := Lib.hid (show pxs ys = (pxs xs).filter smallB1 by have := hys.out; rwa [List.take_length] at this)
      have HE1 := Lib.hid (HE.out wr Hbw.out _ ys (hy.out.from (Nat.le_trans Hs0.out Hs1.out) (Nat.le_trans Hs0.out Hs1.out)) (by omega))
      obtain ⟨⟨y0, y1, y2, y3⟩, -, yl⟩ := (HA1.out.kept hbr.out).f4
      have Hge := Lib.hid (show ∀ k, (Value.slice oa ys.length oc).ownBlock = some k → W.heap.size ≤ k from fun k hk => Nat.le_trans (Nat.le_trans Hs0.out Hs1.out) (hy.out.ge k hk))
      clear HE hys hld
      go_wp2_with fail
      refine HE1.out.mono ?_
      rintro e w2 ⟨v', zs, rfl, hz, hp, -, -, hgr⟩
      obtain ⟨va, vc, hv'⟩ := hz.form
      subst hv'
      have Hz := Lib.hid hz; have Hp := Lib.hid hp; have Hb2 := Lib.hid (Hbw.out.trans (hgr.old Hbw.out.size Hge.out))
      clear hz hp hgr HE1 y0 y1 y2 y3 yl
      go_wp2_with fail
      go_ret
      exact ⟨_, zs, rfl, Hz.out, by rw [Hp.out, Hfin.out], Hb2.out⟩

end Go.Proofs.Ytiinmgccjlmoaaa
