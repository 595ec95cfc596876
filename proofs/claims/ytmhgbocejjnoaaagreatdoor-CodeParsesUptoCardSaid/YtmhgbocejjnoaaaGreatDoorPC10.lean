/- Parts of the proof, one behind the other: RPC. -/
import Derived.Test.YtmhgbocejjnoaaaGreatDoorPC8
import Derived.Test.YtmhgbocejjnoaaaGreatDoorPC9
import Derived.Deep.RegionLaw
/- Walks: the reference reader's node. -/
namespace Go.Proofs.YtmhgbocejjnoaaaGreatDoor
open Go.RowKit Go.Redl
set_option linter.unusedVariables false

theorem node_second (w : World) (o : Obj) (c0 c1 c2 c3 : Value) : NodeAt ((w.alloc o).alloc (.cells #[c0, c1, c2, c3] 27)) (w.heap.size + 1) c0 c1 c2 c3 := by
  have h := NodeAt.fresh (w.alloc o) c0 c1 c2 c3
  have e : (w.alloc o).heap.size = w.heap.size + 1 := by simp
  rwa [e] at h
theorem NodeAt.only {w w' : World} {M N : Nat} {c0 c1 c2 c3 : Value} (h : NodeAt w M c0 c1 c2 c3) (ho : Only N w w') (hne : M ≠ N) : NodeAt w' M c0 c1 c2 c3 := by
  unfold NodeAt
  rw [World.grownBy.block ho M (Array.getElem?_eq_some_iff.1 h).1 (by simpa using hne)]
  exact h
theorem NodeAt.drewq {w : World} {M : Nat} {c0 c1 c2 c3 : Value} (h : NodeAt w M c0 c1 c2 c3) (q : Nat) : NodeAt (w.drewN q) M c0 c1 c2 c3 := h
theorem NodeAt.s0 {w : World} {M : Nat} {c0 c1 c2 c3 : Value} (h : NodeAt w M c0 c1 c2 c3) (u : Value) : NodeAt (w.setCell ⟨M, 0, none⟩ u) M u c1 c2 c3 := Lib.heap_setCell_same (i := 0) h _
theorem NodeAt.s1 {w : World} {M : Nat} {c0 c1 c2 c3 : Value} (h : NodeAt w M c0 c1 c2 c3) (u : Value) : NodeAt (w.setCell ⟨M, 1, none⟩ u) M c0 u c2 c3 := Lib.heap_setCell_same (i := 1) h _
theorem NodeAt.s2 {w : World} {M : Nat} {c0 c1 c2 c3 : Value} (h : NodeAt w M c0 c1 c2 c3) (u : Value) : NodeAt (w.setCell ⟨M, 2, none⟩ u) M c0 c1 u c3 := Lib.heap_setCell_same (i := 2) h _
theorem NodeAt.s3 {w : World} {M : Nat} {c0 c1 c2 c3 : Value} (h : NodeAt w M c0 c1 c2 c3) (u : Value) : NodeAt (w.setCell ⟨M, 3, none⟩ u) M c0 c1 c2 u := Lib.heap_setCell_same (i := 3) h _
theorem Only.setO {N M o : Nat} {a b : World} (h : Only N a b) (hM : a.heap.size ≤ M) (u : Value) : Only N a (b.setCell ⟨M, o, none⟩ u) :=
  Only.grown h (r := some M) ⟨rfl, rfl, rfl, by simp [World.setCell], fun i hi hne => Below.heap_setCell b ⟨M, o, none⟩ u i (fun e => hne (by rw [e]))⟩ (fun k hk => by injection hk with e; omega)
theorem Only.all {N M : Nat} {a b : World} (h : Only N a b) (hM : a.heap.size ≤ M) (u0 u1 u2 u3 : Value) : Only N a ((((b.setCell ⟨M, 0, none⟩ u0).setCell ⟨M, 1, none⟩ u1).setCell ⟨M, 2, none⟩ u2).setCell ⟨M, 3, none⟩ u3) :=
  (((h.setO hM u0).setO hM u1).setO hM u2).setO hM u3
theorem RdrAt.set_ne {w : World} {N M o : Nat} {S : ByteArray} {a e p : Int} (h : RdrAt w N S a e p) (hne : N ≠ M) (u : Value) : RdrAt (w.setCell ⟨M, o, none⟩ u) N S a e p := by
  unfold RdrAt; rw [Below.heap_setCell w ⟨M, o, none⟩ u N hne]; exact h
theorem RdrAt.all_ne {w : World} {N M : Nat} {S : ByteArray} {a e p : Int} (h : RdrAt w N S a e p) (hne : N ≠ M) (u0 u1 u2 u3 : Value) : RdrAt ((((w.setCell ⟨M, 0, none⟩ u0).setCell ⟨M, 1, none⟩ u1).setCell ⟨M, 2, none⟩ u2).setCell ⟨M, 3, none⟩ u3) N S a e p :=
  (((h.set_ne hne u0).set_ne hne u1).set_ne hne u2).set_ne hne u3

theorem next_or (s : List UInt8) (a : Nat) (c : UInt8) (h0 : c ≠ 0) : (((nextB s a).toNat : Int) == (c.toNat : Int)) = standsB s a c := by
  cases h : standsB s a c with
  | true => rw [next_stands h]; simp
  | false => exact next_not h h0 rfl

def RNodeP (S : ByteArray) (n N : Nat) (p0 : Int) (W : World) (R : Rd NodeD) (e : Ending) (w' : World) : Prop :=
  match R with
  | .ok nd m => ∃ cs, e = .returned (.agg cs.toArray) ∧ NodeQ w' (fun b => W.heap.size ≤ b) nd cs ∧ RdrAt w' N S m 0 p0 ∧ Only N W w'
  | .bad q er => ∃ l a1 n1 c1 a2 n2 c2 a3 n3 c3, e = .returned (.agg #[.bool l, .slice a1 n1 c1, .slice a2 n2 c2, .slice a3 n3 c3]) ∧ er ≠ 0 ∧ (∃ a' : Nat, a' ≤ n ∧ RdrAt w' N S a' er q) ∧ Only N W w'

theorem two_boxes (W : World) : NodeAt ((W.alloc (Obj.cells #[.bool false, .slice none 0 0, .slice none 0 0, .slice none 0 0] 27)).alloc (Obj.cells #[.bool false, .slice none 0 0, .slice none 0 0, .slice none 0 0] 27)) W.heap.size (.bool false) (.slice none 0 0) (.slice none 0 0) (.slice none 0 0) ∧
    NodeAt ((W.alloc (Obj.cells #[.bool false, .slice none 0 0, .slice none 0 0, .slice none 0 0] 27)).alloc (Obj.cells #[.bool false, .slice none 0 0, .slice none 0 0, .slice none 0 0] 27)) (W.heap.size + 1) (.bool false) (.slice none 0 0) (.slice none 0 0) (.slice none 0 0) ∧
    Below W.heap.size W ((W.alloc (Obj.cells #[.bool false, .slice none 0 0, .slice none 0 0, .slice none 0 0] 27)).alloc (Obj.cells #[.bool false, .slice none 0 0, .slice none 0 0, .slice none 0 0] 27)) :=
  ⟨(NodeAt.fresh _ _ _ _ _).alloc _, node_second _ _ _ _ _ _, ((Below.refl _ _).alloc (Nat.le_refl _) _).alloc (by simp) _⟩

set_option maxRecDepth 100000 in
set_option maxHeartbeats 4000000 in
theorem rnode_bad (s : List UInt8) (a q N : Nat) (er p0 : Int) (W : World) (hn : s.length ≤ 1000000) (hR : RdrAt W N ⟨s.toArray⟩ a 0 p0) (hh : rdH s a = .bad q er) :
    Calls Tryz.prog 18 #[.pointer (some ⟨N, 0, none⟩)] W (RNodeP ⟨s.toArray⟩ s.length N p0 W (.bad q er)) := by
  have h123 : standsB s a 123 = true ∧ rdP (s.length + 1) s a [] [] = .bad q er := by
    unfold rdH at hh
    by_cases c : standsB s a 123 = true
    · rw [if_pos c] at hh; exact ⟨c, hh⟩
    · rw [if_neg c] at hh; cases hh
  obtain ⟨h123, hrp⟩ := h123
  obtain ⟨hA, hB, hb0⟩ := two_boxes W
  have hNW : N < W.heap.size := hR.facts.2.2.2.2.2
  have hne0 : N ≠ W.heap.size := by omega
  have hne1 : N ≠ W.heap.size + 1 := by omega
  have hR2 := hR.below hb0
  have HN := Lib.hid (next_c N a s 0 p0 _ hR2 hn (Nat.le_of_lt (stands_lt h123)))
  rw [next_stands h123] at HN
  have HP := fun q => Lib.hid (rprops_c s a N p0 _ hn h123 (hR2.drew q))
  rw [hrp] at HP
  obtain ⟨S, hS⟩ : ∃ S, S = (⟨s.toArray⟩ : ByteArray) := ⟨_, rfl⟩
  rw [← hS] at HP ⊢
  have HA := fun q => Lib.hid (hA.drewq q); have HB := fun q => Lib.hid (hB.drewq q)
  have Hb0 := Lib.hid (Only.below (N := N) hb0)
  clear hh hrp hR hA hB hb0 hR2 h123 hS
  go_enter Tryz.func18, Tryz.ntmps18
  go_wp2_with fail
  refine HN.out.mono ?_
  rintro e w2 ⟨rfl, qd, rfl⟩
  clear HN
  go_wp2_with fail
  refine (HP qd).out.mono ?_
  rintro e w3 ⟨a1, n1, c1, rfl, her, ⟨a', ha', hr⟩, ho⟩
  have hA3 := (HA qd).out.only ho (by omega)
  have hB3 := (HB qd).out.only ho (by omega)
  have Ho3 := Lib.hid ((Hb0.out.drewN qd).trans ho)
  clear HP HA HB Hb0 ho
  obtain ⟨x0, x1, x2, x3, -, hN3⟩ := hr.facts
  obtain ⟨y0, y1, y2, y3, ⟨f0, f1, f2, f3⟩, hA4⟩ := hA3.facts
  obtain ⟨z0, z1, z2, z3, ⟨g0, g1, g2, g3⟩, hB4⟩ := hB3.facts
  have hern : (er != 0) = true := by simpa using her
  have Her := Lib.hid her; have Hr3 := Lib.hid hr
  clear hA3 hB3 hr her
  go_wp2_with fail
  refine bodyPost_ret (v := .agg #[.bool false, .slice a1 n1 c1, .slice none 0 0, .slice none 0 0]) (by simp [results, Tryz.results18, go_sem, y0, y1, y2, y3]) rfl ?_
  refine ⟨_, _, _, _, _, _, _, _, _, _, rfl, Her.out, ⟨a', ha', ?_⟩, ?_⟩
  · with_reducible exact (Hr3.out.set_ne hne1 _).all_ne hne0 _ _ _ _
  · with_reducible exact (Ho3.out.setO (Nat.le_succ _) _).all (Nat.le_refl _) _ _ _ _

/-- Where a quoted text ends: behind the first such byte, or at the text's end. -/
theorem leafEnd_of {s : List UInt8} {a j : Nat} (hj : a + 1 ≤ j) (hj2 : j ≤ s.length) (hno : ∀ i, a + 1 ≤ i → i < j → s[i]? ≠ some 34) (hend : j = s.length ∨ s[j]? = some 34) : (leafEnd s a : Int) = min ((j : Int) + 1) s.length := by
  have hl : ∀ x ∈ (s.drop (a + 1)).take (j - (a + 1)), x ≠ 34 := by
    intro x hx e
    obtain ⟨i, hi⟩ := List.mem_iff_getElem?.1 hx
    rw [List.getElem?_take] at hi
    split at hi
    · rename_i hlt
      rw [List.getElem?_drop] at hi
      exact hno (a + 1 + i) (by omega) (by omega) (by rw [hi, e])
    · cases hi
  have hlen : ((s.drop (a + 1)).take (j - (a + 1))).length = j - (a + 1) := by simp; omega
  have hsp : s.drop (a + 1) = (s.drop (a + 1)).take (j - (a + 1)) ++ s.drop j := by
    conv => lhs; rw [← List.take_append_drop (j - (a + 1)) (s.drop (a + 1))]
    rw [List.drop_drop, show a + 1 + (j - (a + 1)) = j by omega]
  unfold leafEnd
  rcases hend with he | he
  · rw [hsp, he, List.drop_length, List.append_nil, index_no _ _ (by rw [← he]; exact hl), if_neg (by omega)]
    omega
  · have hlt : j < s.length := by
      rcases Nat.lt_or_ge j s.length with h | h
      · exact h
      · rw [List.getElem?_eq_none h] at he; cases he
    have hd : s.drop j = 34 :: s.drop (j + 1) := by
      rw [List.drop_eq_getElem_cons hlt]
      rw [List.getElem?_eq_getElem hlt] at he
      injection he with e
      rw [e]
    rw [hsp, hd, index_at _ _ _ hl, hlen, if_pos (by omega)]
    omega

/-- append(own, xs...) as one step of a region that draws; where the row lies behind it. -/
theorem step_app2 {P : Program} {ops : Array Oper} {o : Oper} {a : Act} {w : World} {K : Act → World → Prop} {Q : Exit → Act → World → Prop} {E : Prop}
    (hg : o.guard = none) (s x : Operand) (t : TypeId) (ho : o.op = .call { callee := .builtin .append, args := #[s, x], argTypes := #[t, t] })
    (base : Nat) (e : TypeId) (z : Value) (size bytes : Nat) (ht : P.underlying t = some (.slice e)) (hi : (P.info? e).map (fun i => (i.zero, i.size, i.bytes)) = some (some z, size, bytes))
    (hzs : z.cells.size = size) (hsz : 0 < size)
    (v : Value) (n : Nat) (xs : List Value) (hs : a.eval s = v) (hown : w.ownsRow base e size v n xs)
    (ad : Addr) (m c B : Nat) (news : List Value) (hx : a.eval x = .slice (some ad) m c) (hr : RowA w B size (some ad) m c news)
    (h63 : n + m ≤ maxLen) (hbytes : (n + m) * bytes ≤ 140737488355328) (hbase : base ≤ w.heap.size)
    (h : ∀ v' w', w'.ownsRow base e size v' (n + m) (xs ++ news) → w.grownBy w' v.ownBlock → (v'.ownBlock = v.ownBlock ∨ ∀ k, v'.ownBlock = some k → w.heap.size ≤ k) → K (a.put o.dst v') w') : if Region.wanted o (yielded ops a.tmps) = true then Oper.wp P o a w K Q else E := by
  have hw : Region.wanted o (yielded ops a.tmps) = true := by simp [Region.wanted, hg]
  rw [if_pos hw]
  obtain ⟨i, hi', hz, hsize, hby⟩ := info_parts hi
  obtain ⟨v', w', hrun, h2, h3, h4⟩ := run_own_where (P := P) w base t o.type e i z size bytes ht hi' hz hsize hby hzs hsz v n xs hown ad m c news hr.len hr.cells hr.one h63 hbytes hbase
  unfold Oper.wp execOp
  simp only [ho, resolve, invoke, builtin, Sem.run_bind, Sem.run_pure, Result.andThen_ok, List.map_toArray, List.map_cons, List.map_nil, hs, hx, hrun]
  exact h v' w' h2 h3 h4
theorem stay_kidsO {wr w1 w2 w3 : World} {M T sz n N : Nat} {kv kv' : Value} {css : List Value} (hown : wr.ownsRow M T sz kv n css) (hN : N < M) (h1 : Only N wr w1) (h2 : Below w1.heap.size w1 w2) (hg : w2.grownBy w3 kv.ownBlock)
    (hw : kv'.ownBlock = kv.ownBlock ∨ ∀ k, kv'.ownBlock = some k → w2.heap.size ≤ k) : Stay wr w3 (fun b => M ≤ b ∧ kv.ownBlock ≠ some b) (fun b => M ≤ b ∧ kv'.ownBlock ≠ some b) := by
  have s1 := h1.size; have s2 := h2.size; have s3 := hg.size
  refine ⟨by omega, fun b hb hlt => ?_, fun b hb hlt => ⟨hb.1, ?_⟩⟩
  · rw [hg.block b (by omega) (fun e => hb.2 e.symm), h2.block b (by omega), World.grownBy.block h1 b hlt (by simp; omega)]
  · rcases hw with hw | hw
    · rw [hw]; exact hb.2
    · intro e; have := hw b e; omega
theorem Only.drew1 {N : Nat} {a b : World} (h : Only N a b) : Only N a b.drew := h.then (Below.refl _ _).drew
theorem NodeAt.grownN {w w' : World} {M : Nat} {c0 c1 c2 c3 : Value} {r : Option Nat} (h : NodeAt w M c0 c1 c2 c3) (hg : w.grownBy w' r) (hr : r ≠ some M) : NodeAt w' M c0 c1 c2 c3 := by
  unfold NodeAt; rw [hg.block M (Array.getElem?_eq_some_iff.1 h).1 (fun e => hr e.symm)]; exact h
theorem RdrAt.drew1 {w : World} {N : Nat} {S : ByteArray} {a e p : Int} (h : RdrAt w N S a e p) : RdrAt w.drew N S a e p := h
theorem rnode_ent : ∀ args w, (callFunc 18 args).run Tryz.prog w = .ok (.enter 18 args) w := by intro args w; kernel_rfl
theorem runq_ent : ∀ args w, (callFunc 37 args).run Tryz.prog w = .ok (.enter 37 args) w := by intro args w; kernel_rfl
set_option maxRecDepth 100000 in
set_option maxHeartbeats 8000000 in
theorem rnode_ok (s : List UInt8) (a f a1 N : Nat) (ps : List PropD) (p0 : Int) (W : World) (hn : s.length ≤ 1000000) (ha : a ≤ s.length) (hf : 2 * (s.length - a) + 1 ≤ f + 1) (hR : RdrAt W N ⟨s.toArray⟩ a 0 p0) (hh : rdH s a = .ok ps a1)
    (IH : ∀ (f' b : Nat) (W' : World), f' < f + 1 → b ≤ s.length → 2 * (s.length - b) + 1 ≤ f' → RdrAt W' N ⟨s.toArray⟩ b 0 p0 → Calls Tryz.prog 18 #[.pointer (some ⟨N, 0, none⟩)] W' (RNodeP ⟨s.toArray⟩ s.length N p0 W' (rdN f' s b))) :
    Calls Tryz.prog 18 #[.pointer (some ⟨N, 0, none⟩)] W (RNodeP ⟨s.toArray⟩ s.length N p0 W (rdN (f + 1) s a)) := by
  have hpos := rdH_pos ha hh
  obtain ⟨R, hRR⟩ : ∃ R, R = rdN (f + 1) s a := ⟨_, rfl⟩
  have Hstep : Hid (R = if standsB s a1 34 = true then (match rdL s a1 with
        | .bad p er => .bad p er
        | .ok t e => .ok (.mk true ps t []) e)
      else if standsB s a1 91 = false then .bad a1 11
      else (match rdK f s (a1 + 1) [] with
        | .bad p er => .bad p er
        | .ok ks e => .ok (.mk false ps [] ks) e)) := by
    show R = _
    rw [hRR]; unfold rdN; rw [hh]; all_goals rfl
  rw [← hRR]
  obtain ⟨hA, hB, hb0⟩ := two_boxes W
  have hNW : N < W.heap.size := hR.facts.2.2.2.2.2
  have hne0 : N ≠ W.heap.size := by omega
  have hne1 : N ≠ W.heap.size + 1 := by omega
  have hR2 := hR.below hb0
  have hsz : (⟨s.toArray⟩ : ByteArray).size = s.length := rfl
  have HN := Lib.hid (next_c N a s 0 p0 _ hR2 hn ha)
  have HP := Lib.hid (fun (h123 : standsB s a 123 = true) q => rprops_c s a N p0 _ hn h123 (hR2.drew q))
  have HNx := Lib.hid (fun (W' : World) (a : Nat) (e p : Int) (h : RdrAt W' N ⟨s.toArray⟩ a e p) (ha : a ≤ s.length) => Lib.hid (next_c N a s e p W' h hn ha))
  have HTy := Lib.hid (fun (W' : World) (a : Nat) (c : UInt8) (n : Int) (hc : (c.toNat : Int) = n) (h : RdrAt W' N ⟨s.toArray⟩ a 0 p0) (hs : standsB s a c = true) => Lib.hid (take_yes N a s c n hc 0 p0 W' h hn hs))
  have HTf := Lib.hid (fun (W' : World) (a : Nat) (c : UInt8) (n : Int) (hc : (c.toNat : Int) = n) (h : RdrAt W' N ⟨s.toArray⟩ a 0 p0) (ha : a ≤ s.length) (hs : standsB s a c = false) => Lib.hid (take_fail N a s c n hc p0 W' h hn ha hs))
  have HTo := Lib.hid (fun (W' : World) (a : Nat) (c : UInt8) (n e0 p : Int) (hc : (c.toNat : Int) = n) (h : RdrAt W' N ⟨s.toArray⟩ a e0 p) (he : e0 ≠ 0) (ha : a ≤ s.length) => Lib.hid (take_on N a s c n hc e0 p he W' h hn ha))
  have HFy := Lib.hid (fun (W' : World) (a er pl : Int) (h : RdrAt W' N ⟨s.toArray⟩ a 0 p0) => Lib.hid (fail_yes N _ a p0 er pl W' h))
  have Hbyte := Lib.hid (byte_at s)
  obtain ⟨S, hS⟩ : ∃ S, S = (⟨s.toArray⟩ : ByteArray) := ⟨_, rfl⟩
  rw [← hS] at HP HNx HTy HTf HTo HFy Hbyte hR2 hsz IH ⊢
  have Hcm := Lib.hid (cut_mid s)
  rw [← hS] at Hcm
  have IH := Lib.hid IH; have Hh := Lib.hid hh
  have Hb0 := Lib.hid hb0; have HA := Lib.hid hA; have HB := Lib.hid hB; have Hr2 := Lib.hid hR2
  have hc123 : (((nextB s a).toNat : Int) == 123) = standsB s a 123 := next_or s a 123 (by decide)
  generalize nextB s a = c at HN hc123
  obtain ⟨b, hb⟩ : ∃ b, b = standsB s a 123 := ⟨_, rfl⟩
  rw [← hb] at hc123
  have Hb := Lib.hid hb
  clear hh hRR hR hA hB hb0 hR2 hS hb
  go_enter Tryz.func18, Tryz.ntmps18
  go_upto_if 11 with (go_at_call 35; refine HN.out.mono ?_; rintro e w1 ⟨rfl, qd, rfl⟩)
  go_cut [] (fun wx => ∃ pa pc, NodeAt wx W.heap.size (.bool false) (.slice none 0 0) (.slice none 0 0) (.slice none 0 0) ∧ NodeAt wx (W.heap.size + 1) (.bool false) (.slice pa ps.length pc) (.slice none 0 0) (.slice none 0 0) ∧ RowQ wx (fun b => W.heap.size + 2 ≤ b) 2 pa ps.length pc (propCells ps) ∧ RdrAt wx N S a1 0 p0 ∧ Only N W wx)
  case first =>
    have Hbq := Lib.hid ((Only.below (N := N) Hb0.out).drewN qd)
    have HAq := Lib.hid (HA.out.drewq qd); have HBq := Lib.hid (HB.out.drewq qd)
    cases b with
    | false =>
      have hps : ps = [] ∧ a1 = a := by
        have := Hh.out
        unfold rdH at this
        rw [← Hb.out] at this
        simp at this
        exact ⟨this.1.symm ▸ rfl, this.2.symm ▸ rfl⟩
      obtain ⟨rfl, rfl⟩ := hps
      have Hr3 := Lib.hid (Hr2.out.drew qd)
      go_wp2_with fail
      go_meet
      case rel => exact ⟨none, 0, HAq.out, HBq.out, RowQ.empty _ _ _, Hr3.out, Hbq.out⟩
    | true =>
      have h3 : rdP (s.length + 1) s a [] [] = .ok ps a1 := by
        have := Hh.out
        unfold rdH at this
        rw [← Hb.out, if_pos rfl] at this
        exact this
      have hp := HP.out Hb.out.symm qd
      rw [h3] at hp
      have hp := Lib.hid hp
      clear h3
      go_wp2_with fail
      refine hp.out.mono ?_
      rintro e w3 ⟨v, rfl, hown, hr, ho⟩
      obtain ⟨pa, pc, rfl, hrow⟩ := rowq_own hown (propCells_one _)
      have hA3 := HAq.out.only ho (by omega)
      have hB3 := HBq.out.only ho (by omega)
      have Ho3 := Lib.hid (Hbq.out.trans ho)
      obtain ⟨z0, z1, z2, z3, ⟨g0, g1, g2, g3⟩, hB4⟩ := hB3.facts
      have HA3 := Lib.hid hA3; have HB3 := Lib.hid hB3; have Hr3 := Lib.hid hr; have Hrow := Lib.hid hrow
      clear hp hown hr ho hrow hA3 hB3 HAq HBq Hbq
      go_wp2_with fail
      go_meet
      case rel =>
        refine ⟨pa, pc, ?_, ?_, ?_, ?_, ?_⟩
        · with_reducible exact HA3.out.set (by omega)
        · with_reducible exact HB3.out.s1 _
        · exact rowq_set (by simpa using Hrow.out) (by omega)
        · with_reducible exact Hr3.out.set_ne hne1 _
        · with_reducible exact Ho3.out.setO (Nat.le_succ _) _
  case rest =>
    obtain ⟨pa, pc, hA, hB, hrow, hr, ho⟩ := hcut
    have HA3 := Lib.hid hA; have HB3 := Lib.hid hB; have Hrow := Lib.hid hrow; have Hr3 := Lib.hid hr; have Ho3 := Lib.hid ho
    have hW : W.heap.size + 1 < wc.heap.size := hB.facts.2.2.2.2.2
    obtain ⟨x0, x1, x2, x3, ⟨f1, f2, f3⟩, hN3⟩ := hr.facts
    have HN1 := HNx.out _ a1 _ _ hr hpos.2
    have hc34 : (((nextB s a1).toNat : Int) == 34) = standsB s a1 34 := next_or s a1 34 (by decide)
    generalize nextB s a1 = c2 at HN1 hc34
    clear hA hB hrow hr ho HN HP Hb b Hh hc123 c Hb0 HA HB Hr2
    cases h34 : standsB s a1 34 with
    | true =>
      rw [h34] at hc34
      have hlt1 := stands_lt h34
      obtain ⟨z0, z1, z2, z3, ⟨g0, g1, g2, g3⟩, hB4⟩ := HB3.out.facts
      have Hs2 : Hid (R = (match rdL s a1 with
        | .bad p er => .bad p er
        | .ok t e => .ok (.mk true ps t []) e)) := by
        show R = _
        rw [Hstep.out, if_pos h34]
      clear h34 Hstep IH
      go_wp2_with fail
      refine HN1.out.mono ?_
      rintro e w1 ⟨rfl, qd2, rfl⟩
      clear HN1
      go_wp2_with fail
      obtain ⟨w5, hw5⟩ : ∃ w5, w5 = (wc.drewN qd2).setCell ⟨W.heap.size + 1, 0, none⟩ (.bool true) := ⟨_, rfl⟩
      have hA5 : NodeAt w5 W.heap.size (.bool false) (.slice none 0 0) (.slice none 0 0) (.slice none 0 0) := by rw [hw5]; exact (HA3.out.drewq qd2).set (by omega)
      have hB5 : NodeAt w5 (W.heap.size + 1) (.bool true) (.slice pa ps.length pc) (.slice none 0 0) (.slice none 0 0) := by rw [hw5]; exact (HB3.out.drewq qd2).s0 _
      have hr5 : RdrAt w5 N S a1 0 p0 := by rw [hw5]; exact (Hr3.out.drew qd2).set_ne hne1 _
      have ho5 : Only N W w5 := by rw [hw5]; exact (Ho3.out.drewN qd2).setO (Nat.le_succ _) _
      have hrow5 : RowQ w5 (fun b => W.heap.size + 2 ≤ b) 2 pa ps.length pc (propCells ps) := by
        rw [hw5]
        exact rowq_set (Hrow.out.keep (Nat.le_refl _) (fun _ _ _ => rfl) (fun b hb _ => hb)) (by omega)
      rw [← hw5]
      clear hw5 HA3 HB3 Hrow Hr3 Ho3 x0 x1 x2 x3 f1 f2 f3 hN3 z0 z1 z2 z3 g0 g1 g2 g3 hB4 hW
      obtain ⟨x0, x1, x2, x3, ⟨f1, f2, f3⟩, hN3⟩ := hr5.facts
      have HA5 := Lib.hid hA5; have HB5 := Lib.hid hB5; have Hr5 := Lib.hid hr5; have Ho5 := Lib.hid ho5; have Hrow5 := Lib.hid hrow5
      clear hA5 hB5 hr5 ho5 hrow5
      go_loopg [4] (s.length - (a1 + 1)) (fun g o wi => ∃ j : Nat, o = .int .i64 j ∧ j + g = s.length ∧ a1 + 1 ≤ j ∧ (∀ i, a1 + 1 ≤ i → i < j → s[i]? ≠ some 34) ∧ wi = w5)
      case atStart => exact ⟨a1 + 1, rfl, by omega, Nat.le_refl _, fun i h1 h2 => by omega, rfl⟩
      case round =>
        obtain ⟨j, rfl, hg, hj1, hno, rfl⟩ := hrel
        have Hno := Lib.hid hno
        have hj2 : j ≤ s.length := by omega
        clear hno
        go_upto_region 9 with fail
        go_cut [45] (fun b wx => b = .bool (decide (j < s.length) && !(nextB s j == 34)) ∧ wx = wr)
        case first =>
          by_cases hlt : j < s.length
          · have hby := Hbyte.out j _ (List.getElem?_eq_getElem hlt)
            have hx := next_in hlt
            generalize s[j] = x at hby hx
            have hlti : (j : Int) < s.length := by omega
            have hd : decide (j < s.length) = true := decide_eq_true hlt
            cases hxe : (x == 34) with
            | true =>
              have h3 : ((x.toNat : Int) != 34) = false := by
                have : x = 34 := by simpa using hxe
                subst this; rfl
              have Hx : Hid ((decide (j < s.length) && !(nextB s j == 34)) = false) := by show _ = _; rw [hx, hxe, hd]; rfl
              clear hx hxe hd
              go_wp2_with fail
              go_meet
              case rel => exact ⟨by rw [Hx.out], rfl⟩
            | false =>
              have h3 : ((x.toNat : Int) != 34) = true := by
                have : x ≠ 34 := by simpa using hxe
                exact u8_ne (c := 34) this
              have Hx : Hid ((decide (j < s.length) && !(nextB s j == 34)) = true) := by show _ = _; rw [hx, hxe, hd]; rfl
              clear hx hxe hd
              go_wp2_with fail
              go_meet
              case rel => exact ⟨by rw [Hx.out], rfl⟩
          · have h3 : decide ((j : Int) < s.length) = false := by simp; omega
            have Hx : Hid ((decide (j < s.length) && !(nextB s j == 34)) = false) := by show _ = _; rw [decide_eq_false hlt]; rfl
            go_wp2_with fail
            go_meet
            case rel => exact ⟨by rw [Hx.out], rfl⟩
        case rest =>
          obtain ⟨rfl, rfl⟩ := hcut
          obtain ⟨d, hd⟩ : ∃ d, d = (decide (j < s.length) && !(nextB s j == 34)) := ⟨_, rfl⟩
          rw [← hd]
          cases d with
          | true =>
            simp only [Bool.true_eq, Bool.and_eq_true, decide_eq_true_eq, Bool.not_eq_true', beq_eq_false_iff_ne, ne_eq] at hd
            obtain ⟨hlt, hne⟩ := hd
            have Hne := Lib.hid hne
            clear hne
            go_wp2_with fail
            go_roundg (gk - 1)
            case measure => omega
            case rel =>
              refine ⟨j + 1, rfl, by omega, by omega, fun i h1 h2 => ?_, rfl⟩
              rcases Nat.lt_or_ge i j with h | h
              · exact Hno.out i h1 h
              · obtain rfl : i = j := by omega
                intro e
                apply Hne.out
                unfold nextB
                simp [List.getD, e]
          | false =>
            have hend : j = s.length ∨ s[j]? = some 34 := by
              rcases Nat.lt_or_ge j s.length with h | h
              · right
                rw [decide_eq_true h, next_in h] at hd
                simp at hd
                rw [List.getElem?_eq_getElem h, hd]
              · left; omega
            have hle := leafEnd_of hj1 hj2 Hno.out hend
            have hll := leafEnd_le s a1 hlt1
            have Hle := Lib.hid hle
            clear hd hend hle Hno
            go_upto_region 11 with fail
            go_cut [4] (fun o wx => o = .int .i64 (leafEnd s a1) ∧ wx = wc)
            case first =>
              go_wp2_with fail
              go_meet
              case rel => exact ⟨by rw [Hle.out], rfl⟩
            case rest =>
              obtain ⟨rfl, rfl⟩ := hcut
              have hrl := fun (zs : List Int) (p er : Int) => rdL_eq (s := s) (a := a1) (zs := zs) (p := p) (er := er) rfl
              have hcm := Hcm.out a1 (leafEnd s a1) (by omega) hll.2
              have HU := fun w => runquote_c ((s.take (leafEnd s a1)).drop a1) w (by simp; omega)
              rw [← hcm] at HU
              have Huc := Lib.hid (unq_cases ((s.take (leafEnd s a1)).drop a1))
              obtain ⟨E, hE⟩ : ∃ E, E = leafEnd s a1 := ⟨_, rfl⟩
              rw [← hE] at hrl hcm HU Huc hll ⊢
              have hEi : (a1 : Int) ≤ E := by omega
              have hEl : (E : Int) ≤ s.length := by omega
              have Hcm2 := Lib.hid hcm
              clear Hle hcm hE
              have hQl : ((s.take E).drop a1).length ≤ s.length := by simp; omega
              generalize (s.take E).drop a1 = Q at hrl HU Huc Hcm2 hQl
              rcases Huc.out with ⟨zs, hz, -, hu⟩ | ⟨p, hp, hu⟩
              · rw [hu] at HU
                have Hr : Hid (R = .ok (.mk true ps zs []) E) := by
                  show R = _
                  rw [Hs2.out, hrl zs 0 0 hu]
                  rfl
                have HU := Lib.hid HU; have Hwf := Lib.hid (valid_wf hz)
                clear hrl hu Huc Hs2 hz Hcm2
                go_upto_region 12 with fail
                go_cut [5, 6, 7] (fun t5 t6 t7 wx => t6 = .int .i64 0 ∧ t7 = .int .i64 0 ∧ wx.ownsRow wc.heap.size 21 1 t5 zs.length (zs.map (Value.int .i32)) ∧ Below wc.heap.size wc wx)
                case first =>
                  go_region_law (first
                    | (refine step_call rfl 37 _ _ rfl runq_ent [Value.string (S.extract a1 E)] ?_ _ (HU.out _) ?_
                       · go_simp
                       rintro e w6 ⟨v, rfl, hown, hbel⟩
                       refine ⟨_, rfl, ?_⟩
                       have Hown := Lib.hid hown; have Hbel := Lib.hid hbel; clear hown hbel))
                  all_goals
                    go_wp2_with fail
                    go_meet
                    case rel => exact ⟨rfl, rfl, Hown.out, ((Below.refl _ _).drew).trans Hbel.out⟩
                case rest =>
                  obtain ⟨rfl, rfl, hown, hbel⟩ := hcut
                  obtain ⟨ta, tc, rfl, hrow2⟩ := rowq_own hown (ints_one .i32 zs)
                  have hA6 := HA5.out.keep (hbel.mono (by have := HA5.out.facts.2.2.2.2.2; omega))
                  have hB6 := HB5.out.keep (hbel.mono (by have := HB5.out.facts.2.2.2.2.2; omega))
                  have hr6 := Hr5.out.below hbel
                  have Ho6 := Lib.hid (Ho5.out.then hbel)
                  have Hrow6 := Lib.hid (rowq_below Hrow5.out hbel)
                  have hszc := HB5.out.facts.2.2.2.2.2
                  have Hrow7 := Lib.hid (hrow2.keep (ok' := fun b => W.heap.size + 2 ≤ b) (Nat.le_refl _) (fun _ _ _ => rfl) (fun b hb _ => by omega))
                  clear x0 x1 x2 x3 f1 f2 f3 hN3
                  obtain ⟨x0, x1, x2, x3, ⟨f1, f2, f3⟩, hN3⟩ := hr6.facts
                  obtain ⟨y0, y1, y2, y3, ⟨k0, k1, k2, k3⟩, hA7⟩ := hA6.facts
                  obtain ⟨z0, z1, z2, z3, ⟨g0, g1, g2, g3⟩, hB7⟩ := hB6.facts
                  have Hr6 := Lib.hid hr6
                  clear hown hbel hrow2 hA6 hB6 hr6 HA5 HB5 Hr5 Ho5 Hrow5 HU
                  go_wp2_with fail
                  refine bodyPost_ret (v := .agg #[.bool true, .slice pa ps.length pc, .slice ta zs.length tc, .slice none 0 0]) (by simp [results, Tryz.results18, go_sem, y0, y1, y2, y3]) rfl ?_
                  rw [Hr.out]
                  have hkA : ¬ (W.heap.size + 2 ≤ W.heap.size) := by omega
                  have hkB : ¬ (W.heap.size + 2 ≤ W.heap.size + 1) := by omega
                  have hkN : ¬ (W.heap.size + 2 ≤ N) := by omega
                  refine ⟨[.bool true, .slice pa ps.length pc, .slice ta zs.length tc, .slice none 0 0], rfl, ?_, ?_, ?_⟩
                  · unfold NodeQ
                    refine ⟨pa, pc, ta, tc, none, 0, [], rfl, ?_, ?_, Hwf.out, RowQ.empty _ _ _, by unfold KidsQ; rfl⟩
                    · exact (rowq_all (rowq_set (rowq_set Hrow6.out hkB) hkN) hkA _ _ _ _).keep (Nat.le_refl _) (fun _ _ _ => rfl) (fun b hb _ => by omega)
                    · exact (rowq_all (rowq_set (rowq_set Hrow7.out hkB) hkN) hkA _ _ _ _).keep (Nat.le_refl _) (fun _ _ _ => rfl) (fun b hb _ => by omega)
                  · with_reducible exact ((Hr6.out.set_ne hne1 _).setA E).all_ne hne0 _ _ _ _
                  · with_reducible exact ((Ho6.out.setO (Nat.le_succ _) _).set _).all (Nat.le_refl _) _ _ _ _
              · rw [hu] at HU
                have Hr : Hid (R = .bad (a1 + p) 11) := by
                  show R = _
                  rw [Hs2.out, hrl [] p 11 hu]
                  rfl
                have HU := Lib.hid HU
                have hpi : (p : Int) ≤ s.length := by omega
                have hp : p ≤ s.length := by omega
                clear hrl hu Huc Hs2 Hcm2
                go_upto_region 12 with fail
                go_cut [5, 6, 7] (fun t5 t6 t7 wx => t6 = .int .i64 p ∧ t7 = .int .i64 11 ∧ wx.ownsRow wc.heap.size 21 1 t5 ([] : List Int).length (([] : List Int).map (Value.int .i32)) ∧ Below wc.heap.size wc wx)
                case first =>
                  go_region_law (first
                    | (refine step_call rfl 37 _ _ rfl runq_ent [Value.string (S.extract a1 E)] ?_ _ (HU.out _) ?_
                       · go_simp
                       rintro e w6 ⟨v, rfl, hown, hbel⟩
                       refine ⟨_, rfl, ?_⟩
                       have Hown := Lib.hid hown; have Hbel := Lib.hid hbel; clear hown hbel))
                  all_goals
                    go_wp2_with fail
                    go_meet
                    case rel => exact ⟨rfl, rfl, Hown.out, ((Below.refl _ _).drew).trans Hbel.out⟩
                case rest =>
                  obtain ⟨rfl, rfl, hown, hbel⟩ := hcut
                  obtain ⟨ta, tc, rfl, hrow2⟩ := rowq_own hown (by simp)
                  have hA6 := HA5.out.keep (hbel.mono (by have := HA5.out.facts.2.2.2.2.2; omega))
                  have hB6 := HB5.out.keep (hbel.mono (by have := HB5.out.facts.2.2.2.2.2; omega))
                  have hr6 := Hr5.out.below hbel
                  have Ho6 := Lib.hid (Ho5.out.then hbel)
                  have HF := HFy.out _ a1 11 ((a1 : Int) + p) hr6
                  clear x0 x1 x2 x3 f1 f2 f3 hN3
                  obtain ⟨x0, x1, x2, x3, ⟨f1, f2, f3⟩, hN3⟩ := hr6.facts
                  have Hr6 := Lib.hid hr6; have HA6 := Lib.hid hA6; have HB6 := Lib.hid hB6
                  clear hown hbel hrow2 hA6 hB6 hr6 HA5 HB5 Hr5 Ho5 Hrow5 HU
                  go_wp2_with fail
                  refine HF.out.mono ?_
                  rintro e w7 ⟨rfl, ho, hr⟩
                  have hA6 := HA6.out.only ho (by omega)
                  have hB6 := HB6.out.only ho (by omega)
                  have Ho7 := Lib.hid (Ho6.out.trans ho); have Hr7 := Lib.hid hr
                  clear HF HA6 HB6 Hr6 Ho6 x0 x1 x2 x3 f1 f2 f3 hN3
                  obtain ⟨x0, x1, x2, x3, ⟨f1, f2, f3⟩, hN3⟩ := hr.facts
                  obtain ⟨y0, y1, y2, y3, ⟨k0, k1, k2, k3⟩, hA7⟩ := hA6.facts
                  obtain ⟨z0, z1, z2, z3, ⟨g0, g1, g2, g3⟩, hB7⟩ := hB6.facts
                  clear hA6 hB6 hr ho
                  go_wp2_with fail
                  refine bodyPost_ret (v := .agg #[.bool true, .slice pa ps.length pc, .slice ta 0 tc, .slice none 0 0]) (by simp [results, Tryz.results18, go_sem, y0, y1, y2, y3]) rfl ?_
                  rw [Hr.out]
                  refine ⟨_, _, _, _, _, _, _, _, _, _, rfl, by decide, ⟨E, hll.2, ?_⟩, ?_⟩
                  · have hcast : ((a1 + p : Nat) : Int) = (a1 : Int) + p := Int.natCast_add a1 p
                    rw [hcast]
                    with_reducible exact ((Hr7.out.set_ne hne1 _).setA E).all_ne hne0 _ _ _ _
                  · with_reducible exact ((Ho7.out.setO (Nat.le_succ _) _).set _).all (Nat.le_refl _) _ _ _ _
    | false =>
      rw [h34] at hc34
      obtain ⟨z0, z1, z2, z3, ⟨g0, g1, g2, g3⟩, hB4⟩ := HB3.out.facts
      have Hs2 : Hid (R = if standsB s a1 91 = false then .bad a1 11
          else (match rdK f s (a1 + 1) [] with
            | .bad p er => .bad p er
            | .ok ks e => .ok (.mk false ps [] ks) e)) := by
        show R = _
        rw [Hstep.out, if_neg (by rw [h34]; decide)]
      clear h34 Hstep
      cases h91 : standsB s a1 91 with
      | false =>
        have Hr : Hid (R = .bad a1 11) := by show R = _; rw [Hs2.out, if_pos h91]
        have HT := fun q => HTf.out _ a1 91 91 rfl (Hr3.out.drew q) hpos.2 h91
        clear Hs2 h91 IH
        go_wp2_with fail
        refine HN1.out.mono ?_
        rintro e w1 ⟨rfl, qd2, rfl⟩
        clear HN1
        go_wp2_with fail
        refine (HT _).out.mono ?_
        rintro e w4 ⟨rfl, ho, hr⟩
        have HA4 := Lib.hid ((HA3.out.drewq qd2).only ho (by omega)); have HB4 := Lib.hid ((HB3.out.drewq qd2).only ho (by omega)); have Ho4 := Lib.hid ((Ho3.out.drewN qd2).trans ho); have Hr4 := Lib.hid hr
        clear ho hr HT HA3 HB3 Hrow Hr3 Ho3 x0 x1 x2 x3 f1 f2 f3 hN3 z0 z1 z2 z3 g0 g1 g2 g3 hB4 hW
        go_wp2_with fail
        go_loopg [] 0 (fun g wi => wi = w4)
        case atStart => rfl
        case round =>
          obtain rfl := hrel
          obtain ⟨x0, x1, x2, x3, ⟨f1, f2, f3⟩, hN3⟩ := Hr4.out.facts
          have HT := HTo.out _ a1 93 93 11 a1 rfl Hr4.out (by decide) hpos.2
          go_wp2_with fail
          refine HT.out.mono ?_
          rintro e w5 ⟨rfl, ho, a5, ha5, hr⟩
          have hA5 := HA4.out.only ho (by omega); have hB5 := HB4.out.only ho (by omega)
          have Ho5 := Lib.hid (Ho4.out.trans ho); have Hr5 := Lib.hid hr
          obtain ⟨y0, y1, y2, y3, ⟨k0, k1, k2, k3⟩, hA7⟩ := hA5.facts
          obtain ⟨z0, z1, z2, z3, ⟨g0, g1, g2, g3⟩, hB7⟩ := hB5.facts
          clear ho hr HT HA4 HB4 Ho4 Hr4 hA5 hB5 x0 x1 x2 x3 f1 f2 f3 hN3
          go_wp2_with fail
          refine bodyPost_ret (v := .agg #[.bool false, .slice pa ps.length pc, .slice none 0 0, .slice none 0 0]) (by simp [results, Tryz.results18, go_sem, y0, y1, y2, y3]) rfl ?_
          rw [Hr.out]
          refine ⟨_, _, _, _, _, _, _, _, _, _, rfl, by decide, ⟨a5, ha5, ?_⟩, ?_⟩
          · with_reducible exact Hr5.out.all_ne hne0 _ _ _ _
          · with_reducible exact Ho5.out.all (Nat.le_refl _) _ _ _ _
      | true =>
        have hlt1 := stands_lt h91
        obtain ⟨Rk, hRk⟩ : ∃ Rk, Rk = rdK f s (a1 + 1) [] := ⟨_, rfl⟩
        have HR : Hid (R = kidsR ps Rk) := by show R = _; rw [Hs2.out, if_neg (by rw [h91]; decide), hRk]; all_goals rfl
        have HRk := Lib.hid hRk
        have HT := fun q => HTy.out _ a1 91 91 rfl (Hr3.out.drew q) h91
        clear Hs2 h91 hRk
        go_wp2_with fail
        refine HN1.out.mono ?_
        rintro e w1 ⟨rfl, qd2, rfl⟩
        clear HN1
        go_wp2_with fail
        refine (HT _).out.mono ?_
        rintro e w4 ⟨rfl, ho, hr⟩
        have HA4 := Lib.hid ((HA3.out.drewq qd2).only ho (by omega)); have HB4 := Lib.hid ((HB3.out.drewq qd2).only ho (by omega)); have Ho4 := Lib.hid ((Ho3.out.drewN qd2).trans ho); have Hr4 := Lib.hid hr
        have Hrow4 := Lib.hid (Hrow.out.keep (w' := w4) (ok' := fun b => W.heap.size + 2 ≤ b) (ho.size) (fun b hb hlt => World.grownBy.block ho b hlt (by simp; omega)) (fun b hb _ => hb))
        clear ho hr HT HA3 HB3 Hrow Hr3 Ho3 x0 x1 x2 x3 f1 f2 f3 hN3 z0 z1 z2 z3 g0 g1 g2 g3 hB4 hW
        go_wp2_with fail
        go_loopg [] f (fun g wi => (∃ (q : Nat) (out : List NodeD) (ka : Option Addr) (kc : Nat) (css : List Value), q ≤ s.length ∧ 2 * (s.length - q) + 2 ≤ g ∧ g ≤ f ∧ rdK g s q out = Rk ∧ out.length ≤ q ∧ NodeAt wi W.heap.size (.bool false) (.slice none 0 0) (.slice none 0 0) (.slice none 0 0) ∧
            NodeAt wi (W.heap.size + 1) (.bool false) (.slice pa ps.length pc) (.slice none 0 0) (.slice ka out.length kc) ∧ wi.ownsRow (W.heap.size + 2) 27 4 (.slice ka out.length kc) out.length css ∧ KidsQ wi (fun b => W.heap.size + 2 ≤ b ∧ (Value.slice ka out.length kc).ownBlock ≠ some b) out css ∧
            RowQ wi (fun b => W.heap.size + 2 ≤ b ∧ (Value.slice ka out.length kc).ownBlock ≠ some b) 2 pa ps.length pc (propCells ps) ∧ RdrAt wi N S q 0 p0 ∧ Only N W wi) ∨
          (∃ (a' q : Nat) (er : Int) (ka : Option Addr) (kn kc : Nat), er ≠ 0 ∧ Rk = .bad q er ∧ a' ≤ s.length ∧ NodeAt wi W.heap.size (.bool false) (.slice none 0 0) (.slice none 0 0) (.slice none 0 0) ∧ NodeAt wi (W.heap.size + 1) (.bool false) (.slice pa ps.length pc) (.slice none 0 0) (.slice ka kn kc) ∧ RdrAt wi N S a' er q ∧ Only N W wi))
        case atStart => exact .inl ⟨a1 + 1, [], none, 0, [], hlt1, by omega, Nat.le_refl _, HRk.out.symm, by simp, HA4.out, HB4.out, World.ownsRow_nil _ _ _ _, by unfold KidsQ; rfl, Hrow4.out.keep (Nat.le_refl _) (fun _ _ _ => rfl) (fun b hb _ => ⟨hb, by simp [Value.ownBlock]⟩), Hr4.out, Ho4.out⟩
        case round =>
          rcases hrel with ⟨q, out, ka, kc, css, hq, hf1, hf2, hr, hoq, hA, hB, hown, hkids, hrow, hrd, honly⟩ | ⟨a', q, er, ka, kn, kc, her, hRb, ha', hA, hB, hrd, honly⟩
          · obtain ⟨g, rfl⟩ : ∃ g, gk = g + 1 := ⟨gk - 1, by omega⟩
            have hstep := rdK_step g s q out
            rw [hr] at hstep
            have Hst := Lib.hid hstep
            have HN5 := HNx.out _ q _ _ hrd hq
            obtain ⟨x0, x1, x2, x3, ⟨f1, f2, f3⟩, hN3⟩ := hrd.facts
            have HA5 := Lib.hid hA; have HB5 := Lib.hid hB; have Hown := Lib.hid hown; have Hkids := Lib.hid hkids; have Hrow5 := Lib.hid hrow; have Hr5 := Lib.hid hrd; have Ho5 := Lib.hid honly
            clear hstep hr hA hB hown hkids hrow hrd honly HA4 HB4 Ho4 Hr4 Hrow4 HRk
            cases h93 : standsB s q 93 with
            | true =>
              have hlt := stands_lt h93
              have HR2 : Hid (R = .ok (.mk false ps [] out) (q + 1)) := by show R = _; rw [HR.out, Hst.out, if_pos h93]; rfl
              have HT := fun qd => HTy.out _ q 93 93 rfl (Hr5.out.drew qd) h93
              rw [next_stands h93] at HN5
              clear h93 Hst HR IH
              go_wp2_with fail
              refine HN5.out.mono ?_
              rintro e w5 ⟨rfl, qd3, rfl⟩
              clear HN5
              go_wp2_with fail
              refine (HT _).out.mono ?_
              rintro e w6 ⟨rfl, ho, hr⟩
              have ho' : Only N wr w6 := ((Only.refl N wr).drewN qd3).trans ho
              have hA6 := HA5.out.only ho' (by omega); have hB6 := HB5.out.only ho' (by omega)
              have Ho6 := Lib.hid (Ho5.out.trans ho'); have Hr6 := Lib.hid hr
              have Hkids6 := Lib.hid (KidsQ.keep (w' := w6) (ok' := fun b => W.heap.size + 2 ≤ b) ho'.size (fun b hb hlt => World.grownBy.block ho' b hlt (by simp; omega)) (fun b hb _ => hb.1) _ _ Hkids.out)
              have Hrow6 := Lib.hid (Hrow5.out.keep (w' := w6) (ok' := fun b => W.heap.size + 2 ≤ b) ho'.size (fun b hb hlt => World.grownBy.block ho' b hlt (by simp; omega)) (fun b hb _ => hb.1))
              have hown6 := own_only Hown.out ho' (by omega)
              obtain ⟨ka', kc', hka, hrk⟩ := rowq_own hown6 Hkids6.out.onec
              injection hka with e1 e2 e3
              subst e1; subst e3
              have Hrk := Lib.hid hrk
              obtain ⟨y0, y1, y2, y3, ⟨k0, k1, k2, k3⟩, hA7⟩ := hA6.facts
              obtain ⟨z0, z1, z2, z3, ⟨g0, g1, g2, g3⟩, hB7⟩ := hB6.facts
              clear ho hr ho' HT HA5 HB5 Ho5 Hr5 hA6 hB6 x0 x1 x2 x3 f1 f2 f3 hN3 hown6 hrk Hkids Hrow5 Hown
              go_wp2_with fail
              refine bodyPost_ret (v := .agg #[.bool false, .slice pa ps.length pc, .slice none 0 0, .slice ka out.length kc]) (by simp [results, Tryz.results18, go_sem, y0, y1, y2, y3]) rfl ?_
              rw [HR2.out]
              have hkA : ¬ (W.heap.size + 2 ≤ W.heap.size) := by omega
              refine ⟨[.bool false, .slice pa ps.length pc, .slice none 0 0, .slice ka out.length kc], rfl, ?_, ?_, ?_⟩
              · unfold NodeQ
                refine ⟨pa, pc, none, 0, ka, kc, css, rfl, ?_, RowQ.empty _ _ _, by simp, ?_, ?_⟩
                · exact (rowq_all Hrow6.out hkA _ _ _ _).keep (Nat.le_refl _) (fun _ _ _ => rfl) (fun b hb _ => by omega)
                · exact (rowq_all Hrk.out hkA _ _ _ _).keep (Nat.le_refl _) (fun _ _ _ => rfl) (fun b hb _ => by omega)
                · exact KidsQ.keep (ok := fun b => W.heap.size + 2 ≤ b) (Nat.le_refl _) (fun _ _ _ => rfl) (fun b hb _ => by omega) _ _ (kidsq_all Hkids6.out hkA _ _ _ _)
              · with_reducible exact Hr6.out.all_ne hne0 _ _ _ _
              · with_reducible exact Ho6.out.all (Nat.le_refl _) _ _ _ _
            | false =>
              have hne93 : (((nextB s q).toNat : Int) != 93) = true := by
                have := next_not (n := 93) h93 (by decide) rfl
                simp [bne, this]
              have HI := fun (W' : World) (h : RdrAt W' N S q 0 p0) => IH.out g q W' (by omega) hq (by omega) h
              generalize nextB s q = c3 at HN5 hne93
              obtain ⟨z0, z1, z2, z3, ⟨g0, g1, g2, g3⟩, hB4⟩ := HB5.out.facts
              cases hn' : rdN g s q with
              | bad q2 er =>
                have HR2 : Hid (Rk = .bad q2 er) := by show Rk = _; rw [Hst.out, if_neg (by rw [h93]; decide), hn']
                rw [hn'] at HI
                clear h93 hn' Hst HR IH
                go_wp2_with fail
                refine HN5.out.mono ?_
                rintro e w5 ⟨rfl, qd3, rfl⟩
                clear HN5
                go_wp2_with fail
                go_region_law (first
                  | (refine step_call rfl 18 _ _ rfl rnode_ent [Value.pointer (some ⟨N, 0, none⟩)] ?_ _ (HI _ ?_) ?_
                     · go_simp
                     · first | exact (Hr5.out.drew qd3).drew1 | exact Hr5.out.drew qd3
                     intro e w6 hP
                     obtain ⟨l, a2, n2, k2, a3, n3, k3, a4, n4, k4, rfl, her, ⟨a9, ha9, hr6⟩, honly⟩ := hP
                     refine ⟨_, rfl, ?_⟩
                     have ho' := Lib.hid ((((Only.refl N wr).drewN qd3).drew1).trans honly)
                     have hB6 := HB5.out.only ho'.out (by omega)
                     have HA6 := Lib.hid (HA5.out.only ho'.out (by omega))
                     have hs6 := ho'.out.size
                     have Hown6 := Lib.hid (own_only Hown.out ho'.out (by omega))
                     obtain ⟨z0, z1, z2, z3, ⟨g0, g1, g2, g3⟩, hB7⟩ := hB6.facts
                     have HB6 := Lib.hid hB6; have Hr6 := Lib.hid hr6; have Her := Lib.hid her
                     clear hB6 hr6 honly her)
                  | (refine step_app2 rfl _ _ 25 rfl (W.heap.size + 2) 27 (.agg #[.bool false, .slice none 0 0, .slice none 0 0, .slice none 0 0]) 4 80 Tryz.underlying25 info_node rfl (by decide) (.slice ka out.length kc) out.length css ?_ (Hown6.out.alloc _) ⟨w6.heap.size, 0, none⟩ 1 1 (w6.heap.size + 1) [.bool l, .slice a2 n2 k2, .slice a3 n3 k3, .slice a4 n4 k4] ?_ ?_ ?_ ?_ ?_ ?_
                     · go_simp
                     · go_simp
                     · exact row_four w6 _ _ _ _ _ _ rfl rfl rfl rfl (by omega)
                     · unfold maxLen; omega
                     · omega
                     · simp; omega
                     intro v' w7 hown' hgrow hwhere
                     have hba := (Below.refl w6.heap.size w6).alloc (Nat.le_refl _) (Obj.cells #[.bool l, .slice a2 n2 k2, .slice a3 n3 k3, .slice a4 n4 k4] 27)
                     have hB8 := (HB6.out.alloc (Obj.cells #[.bool l, .slice a2 n2 k2, .slice a3 n3 k3, .slice a4 n4 k4] 27)).grownN hgrow (fun e => by have := (Hown.out.lt _ e).1; omega)
                     have HA8 := Lib.hid ((HA6.out.alloc (Obj.cells #[.bool l, .slice a2 n2 k2, .slice a3 n3 k3, .slice a4 n4 k4] 27)).grownN hgrow (fun e => by have := (Hown.out.lt _ e).1; omega))
                     have Hr8 := Lib.hid ((Hr6.out.below hba).other hgrow (fun e => by have := (Hown.out.lt _ e).1; omega))
                     have Ho8 := Lib.hid (((Ho5.out.trans ho'.out).then hba).grown hgrow (fun k hk => by have := (Hown.out.lt k hk).1; omega))
                     obtain ⟨va, vc, rfl, -⟩ := row_of_own hown' (by intro u hu; rcases List.mem_append.1 hu with h | h; exact Hkids.out.onec u h; simp at h; rcases h with rfl | rfl | rfl | rfl <;> rfl)
                     have Hown8 := Lib.hid hown'
                     skip
                     obtain ⟨t0, t1, t2, t3, ⟨p0', p1', p2', p3'⟩, hB9⟩ := hB8.facts
                     have HB8 := Lib.hid hB8
                     clear hown' hgrow hwhere hba hB8))
                all_goals
                  go_wp2_with fail
                  go_roundg g
                  case measure => omega
                  case rel =>
                    right
                    refine ⟨a9, q2, er, va, out.length + 1, vc, Her.out, HR2.out, ha9, ?_, ?_, ?_, ?_⟩
                    · with_reducible exact HA8.out.set (by omega)
                    · with_reducible exact HB8.out.s3 _
                    · with_reducible exact Hr8.out.set_ne hne1 _
                    · with_reducible exact Ho8.out.setO (Nat.le_succ _) _
              | ok k e2 =>
                have hpos2 := rdN_pos g s q k e2 hq hn'
                have HRn : Hid (rdK g s e2 (out ++ [k]) = Rk) := by show _ = Rk; rw [Hst.out, if_neg (by rw [h93]; decide), hn']
                rw [hn'] at HI
                clear h93 hn' Hst HR IH
                go_wp2_with fail
                refine HN5.out.mono ?_
                rintro e w5 ⟨rfl, qd3, rfl⟩
                clear HN5
                go_wp2_with fail
                go_region_law (first
                  | (refine step_call rfl 18 _ _ rfl rnode_ent [Value.pointer (some ⟨N, 0, none⟩)] ?_ _ (HI _ ?_) ?_
                     · go_simp
                     · first | exact (Hr5.out.drew qd3).drew1 | exact Hr5.out.drew qd3
                     intro e w6 hP
                     obtain ⟨cs, rfl, hnode, hr6, honly⟩ := hP
                     obtain ⟨l, a2, n2, k2, a3, n3, k3, a4, n4, k4, rfl⟩ := hnode.form
                     refine ⟨_, rfl, ?_⟩
                     have ho' := Lib.hid ((((Only.refl N wr).drewN qd3).drew1).trans honly)
                     have hB6 := HB5.out.only ho'.out (by omega)
                     have HA6 := Lib.hid (HA5.out.only ho'.out (by omega))
                     have hs6 := ho'.out.size
                     have Hown6 := Lib.hid (own_only Hown.out ho'.out (by omega))
                     obtain ⟨z0, z1, z2, z3, ⟨g0, g1, g2, g3⟩, hB7⟩ := hB6.facts
                     have HB6 := Lib.hid hB6; have Hr6 := Lib.hid hr6; have Hnode := Lib.hid hnode
                     clear hB6 hr6 honly hnode)
                  | (refine step_app2 rfl _ _ 25 rfl (W.heap.size + 2) 27 (.agg #[.bool false, .slice none 0 0, .slice none 0 0, .slice none 0 0]) 4 80 Tryz.underlying25 info_node rfl (by decide) (.slice ka out.length kc) out.length css ?_ (Hown6.out.alloc _) ⟨w6.heap.size, 0, none⟩ 1 1 (w6.heap.size + 1) [.bool l, .slice a2 n2 k2, .slice a3 n3 k3, .slice a4 n4 k4] ?_ ?_ ?_ ?_ ?_ ?_
                     · go_simp
                     · go_simp
                     · exact row_four w6 _ _ _ _ _ _ rfl rfl rfl rfl (by omega)
                     · unfold maxLen; omega
                     · omega
                     · simp; omega
                     intro v' w7 hown' hgrow hwhere
                     have hba := (Below.refl w6.heap.size w6).alloc (Nat.le_refl _) (Obj.cells #[.bool l, .slice a2 n2 k2, .slice a3 n3 k3, .slice a4 n4 k4] 27)
                     have hB8 := (HB6.out.alloc (Obj.cells #[.bool l, .slice a2 n2 k2, .slice a3 n3 k3, .slice a4 n4 k4] 27)).grownN hgrow (fun e => by have := (Hown.out.lt _ e).1; omega)
                     have HA8 := Lib.hid ((HA6.out.alloc (Obj.cells #[.bool l, .slice a2 n2 k2, .slice a3 n3 k3, .slice a4 n4 k4] 27)).grownN hgrow (fun e => by have := (Hown.out.lt _ e).1; omega))
                     have Hr8 := Lib.hid ((Hr6.out.below hba).other hgrow (fun e => by have := (Hown.out.lt _ e).1; omega))
                     have Ho8 := Lib.hid (((Ho5.out.trans ho'.out).then hba).grown hgrow (fun k hk => by have := (Hown.out.lt k hk).1; omega))
                     obtain ⟨va, vc, rfl, -⟩ := row_of_own hown' (by intro u hu; rcases List.mem_append.1 hu with h | h; exact Hkids.out.onec u h; exact (NodeQ.node _ _ Hnode.out).one u h)
                     have Hown8 := Lib.hid hown'
                     have hwh : (Value.slice va (out.length + 1) vc).ownBlock = (Value.slice ka out.length kc).ownBlock ∨ ∀ k, (Value.slice va (out.length + 1) vc).ownBlock = some k → (w6.alloc (Obj.cells #[.bool l, .slice a2 n2 k2, .slice a3 n3 k3, .slice a4 n4 k4] 27)).heap.size ≤ k := hwhere
                     have hst1 := stay_kidsO Hown.out (by omega) ho'.out hba hgrow hwh
                     have hst2 := stay_kid Hown.out (by omega) hba hgrow hwh
                     have Hk8 := Lib.hid ((Hkids.out.stay hst1).append (KidsQ.one (Hnode.out.stay hst2)))
                     have Hrow8 := Lib.hid (Hrow5.out.stay hst1)
                     obtain ⟨t0, t1, t2, t3, ⟨p0', p1', p2', p3'⟩, hB9⟩ := hB8.facts
                     have HB8 := Lib.hid hB8
                     clear hown' hgrow hwhere hba hB8))
                all_goals
                  go_wp2_with fail
                  go_roundg g
                  case measure => omega
                  case rel =>
                    left
                    refine ⟨e2, out ++ [k], va, vc, css ++ [.bool l, .slice a2 n2 k2, .slice a3 n3 k3, .slice a4 n4 k4], hpos2.2, by omega, by omega, HRn.out, by simp; omega, ?_, ?_, ?_, ?_, ?_, ?_, ?_⟩
                    · with_reducible exact HA8.out.set (by omega)
                    · rw [List.length_append]
                      exact HB8.out.s3 _
                    · rw [List.length_append]
                      exact own_set Hown8.out (by omega)
                    · rw [List.length_append]
                      exact KidsQ.keep (by simp [World.setCell]) (fun b hb _ => Below.heap_setCell _ _ _ b (by show b ≠ W.heap.size + 1; have := hb.1; omega)) (fun b hb _ => hb) _ _ Hk8.out
                    · rw [List.length_append]
                      exact Hrow8.out.keep (by simp [World.setCell]) (fun b hb _ => Below.heap_setCell _ _ _ b (by show b ≠ W.heap.size + 1; have := hb.1; omega)) (fun b hb _ => hb)
                    · with_reducible exact Hr8.out.set_ne hne1 _
                    · with_reducible exact Ho8.out.setO (Nat.le_succ _) _
          · have hern : (er == 0) = false := by simpa using her
            have Her := Lib.hid her
            have HRb : Hid (R = .bad q er) := by show R = _; rw [HR.out, hRb]; rfl
            obtain ⟨x0, x1, x2, x3, ⟨f1, f2, f3⟩, hN3⟩ := hrd.facts
            have HT := HTo.out _ a' 93 93 er q rfl hrd her ha'
            have HA5 := Lib.hid hA; have HB5 := Lib.hid hB; have Ho5 := Lib.hid honly
            clear her hRb hA hB hrd honly HA4 HB4 Ho4 Hr4 Hrow4 HRk HR IH
            go_wp2_with fail
            refine HT.out.mono ?_
            rintro e w5 ⟨rfl, ho, a5, ha5, hr⟩
            have hA5 := HA5.out.only ho (by omega); have hB5 := HB5.out.only ho (by omega)
            have Ho6 := Lib.hid (Ho5.out.trans ho); have Hr5 := Lib.hid hr
            obtain ⟨y0, y1, y2, y3, ⟨k0, k1, k2, k3⟩, hA7⟩ := hA5.facts
            obtain ⟨z0, z1, z2, z3, ⟨g0, g1, g2, g3⟩, hB7⟩ := hB5.facts
            clear ho hr HT HA5 HB5 Ho5 hA5 hB5 x0 x1 x2 x3 f1 f2 f3 hN3
            go_wp2_with fail
            refine bodyPost_ret (v := .agg #[.bool false, .slice pa ps.length pc, .slice none 0 0, .slice ka kn kc]) (by simp [results, Tryz.results18, go_sem, y0, y1, y2, y3]) rfl ?_
            rw [HRb.out]
            refine ⟨_, _, _, _, _, _, _, _, _, _, rfl, Her.out, ⟨a5, ha5, ?_⟩, ?_⟩
            · with_reducible exact Hr5.out.all_ne hne0 _ _ _ _
            · with_reducible exact Ho6.out.all (Nat.le_refl _) _ _ _ _

/-- The reference reader's node: what it answers. -/
theorem rnode_c (s : List UInt8) (N : Nat) (p0 : Int) (hn : s.length ≤ 1000000) (f : Nat) : ∀ (a : Nat) (W : World), a ≤ s.length → 2 * (s.length - a) + 1 ≤ f → RdrAt W N ⟨s.toArray⟩ a 0 p0 →
    Calls Tryz.prog 18 #[.pointer (some ⟨N, 0, none⟩)] W (RNodeP ⟨s.toArray⟩ s.length N p0 W (rdN f s a)) := by
  induction f using Nat.strongRecOn with
  | ind f ih =>
    intro a W ha hf hR
    obtain ⟨f, rfl⟩ : ∃ g, f = g + 1 := ⟨f - 1, by omega⟩
    cases hh : rdH s a with
    | bad q er =>
      have : rdN (f + 1) s a = .bad q er := by unfold rdN; rw [hh]
      rw [this]
      exact rnode_bad s a q N er p0 W hn hR hh
    | ok ps a1 => exact rnode_ok s a f a1 N ps p0 W hn ha hf hR hh (fun f' b W' h1 h2 h3 h4 => ih f' h1 b W' h2 h3 h4)

end Go.Proofs.YtmhgbocejjnoaaaGreatDoor
