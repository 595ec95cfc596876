/- Parts of the proof, one behind the other: RCQ, RCR, RCT, RCU, RCX, RCY. -/
import Derived.Test.YtmhgbocejjnoaaaDoorQ4
/- Walks: tree's at, Get. -/
namespace Go.Proofs.YtmhgbocejjnoaaaDoor
open Go.RowKit Go.Redl
set_option linter.unusedVariables false

def kidsOf : NodeD → List NodeD
  | .mk _ _ _ ks => ks
/-- The node at a path. -/
def atN : NodeD → List Int → Option NodeD
  | n, [] => some n
  | n, i :: p => if 0 ≤ i then (match (kidsOf n)[i.toNat]? with | some k => atN k p | none => none) else none
/-- A node that lies at an address. -/
def NodeP (w : World) (B b off : Nat) (n : NodeD) : Prop := ∃ l a1 n1 c1 a2 n2 c2 a3 n3 c3, NodeC w B n [.bool l, .slice a1 n1 c1, .slice a2 n2 c2, .slice a3 n3 c3] ∧ w.cell? ⟨b, off, none⟩ = some (.bool l) ∧ w.cell? ⟨b, off + 1, none⟩ = some (.slice a1 n1 c1) ∧
  w.cell? ⟨b, off + 2, none⟩ = some (.slice a2 n2 c2) ∧ w.cell? ⟨b, off + 3, none⟩ = some (.slice a3 n3 c3)
def AtP (w : World) (B : Nat) (R : Option NodeD) (e : Ending) (w' : World) : Prop :=
  match R with
  | some m => (∃ b off, e = .returned (.tuple #[.pointer (some ⟨b, off, none⟩), .int .i64 0]) ∧ NodeP w B b off m) ∧ w = w'
  | none => e = .returned (.tuple #[.pointer none, .int .i64 5]) ∧ w = w'

set_option maxRecDepth 100000 in
set_option maxHeartbeats 2000000 in
theorem at_c (n : NodeD) (p : List Int) (a : Option Addr) (cap : Nat) (b off B : Nat) (w : World) (hn : NodeP w B b off n) (hr : RowA w B 1 a p.length cap (p.map (Value.int .i64))) :
    Calls Tryd.prog 25 #[.pointer (some ⟨b, off, none⟩), .slice a p.length cap] w (AtP w B (atN n p)) := by
  have hm : p.length ≤ 9223372036854775807 := by have h1 := hr.le; have h2 := hr.max; unfold maxLen at h2; omega
  obtain ⟨R, hR⟩ : ∃ R, R = atN n p := ⟨_, rfl⟩
  rw [← hR]
  have HR := Lib.hid hR; have Hn := Lib.hid hn
  clear hR hn
  go_enter Tryd.func25, Tryd.ntmps25
  go_wp2_with fail
  go_loopg [0, 10] p.length (fun g q i wr => ∃ (k b' off' : Nat) (n' : NodeD), q = .pointer (some ⟨b', off', none⟩) ∧ i = .int .i64 k ∧ k + g = p.length ∧ atN n' (p.drop k) = R ∧ NodeP w B b' off' n' ∧ wr = w)
  case atStart => exact ⟨0, b, off, n, rfl, rfl, by omega, HR.out.symm, Hn.out, rfl⟩
  case round =>
    obtain ⟨k, b', off', n', rfl, rfl, hg, hat, hn', rfl⟩ := hrel
    have Hat := Lib.hid hat; have Hn' := Lib.hid hn'
    obtain ⟨l, a1, n1, c1, a2, n2, c2, a3, n3, c3, hnc, x0, x1, x2, x3⟩ := hn'
    clear hat Hn HR
    by_cases hlt : k < p.length
    · have hd : p.drop k = p[k] :: p.drop (k + 1) := List.drop_eq_getElem_cons hlt
      have Hd := Lib.hid hd
      obtain ⟨pb, po, rfl, hpb, hcell0⟩ := hr.int_at k hlt
      have hcell := hcell0 k hlt
      rw [getD_of_lt hlt] at hcell
      clear hcell0
      generalize p[k] = i at hcell Hd
      have hlti : (k : Int) < p.length := by omega
      clear hd
      obtain ⟨l', ps', t', ks'⟩ := n'
      have hnc2 := hnc
      unfold NodeC at hnc2
      obtain ⟨ap, cp, at_, ct, ak, ck, css, hcs, -, -, -, hk, hkk⟩ := hnc2
      injection hcs with e0 e1; injection e1 with e1 e2; injection e2 with e2 e3; injection e3 with e3 e4
      injection e3 with f1 f2 f3
      subst f1; subst f2; subst f3
      clear e0 e1 e2 e4 hnc
      by_cases h0 : 0 ≤ i
      · obtain ⟨j, rfl⟩ : ∃ j : Nat, i = j := ⟨i.toNat, by omega⟩
        by_cases hj : j < ks'.length
        · obtain ⟨kb, ko, l1, b1, o1, d1, b2, o2, d2, b3, o3, d3, rfl, hkb, hkn, g0, g1, g2, g3⟩ := hk.kid_at hkk j hj
          have Hat2 : Hid (atN ks'[j] (p.drop (k + 1)) = R) := by
            show _ = R
            rw [← Hat.out, Hd.out]
            simp [atN, kidsOf, List.getElem?_eq_getElem hj]
          have Hkn := Lib.hid (show NodeP wr B kb (ko + j * 4) ks'[j] from ⟨l1, b1, o1, d1, b2, o2, d2, b3, o3, d3, hkn, g0, g1, g2, g3⟩)
          have hnl : decide ((j : Int) < 0) = false := by simp
          have hji : (j : Int) < ks'.length := by omega
          have hge : decide ((ks'.length : Int) ≤ j) = false := by simp; omega
          clear hkn hk hkk Hat
          go_wp2_with fail
          go_roundg (gk - 1)
          case measure => omega
          case rel => exact ⟨k + 1, kb, ko + j * 4, ks'[j], rfl, rfl, by omega, Hat2.out, Hkn.out, rfl⟩
        · have HR2 : Hid (R = none) := by
            show R = none
            rw [← Hat.out, Hd.out]
            simp [atN, kidsOf, List.getElem?_eq_none (Nat.le_of_not_lt hj)]
          have hnl : decide ((j : Int) < 0) = false := by simp
          have hge : decide ((ks'.length : Int) ≤ j) = true := by simp; omega
          clear hk hkk Hat
          go_wp2_with fail
          go_ret2
          rw [HR2.out]
          exact ⟨rfl, rfl⟩
      · have HR2 : Hid (R = none) := by
          show R = none
          rw [← Hat.out, Hd.out]
          simp only [atN]
          rw [if_neg h0]
        have hneg : i < 0 := by omega
        clear hk hkk Hat
        go_wp2_with fail
        go_ret2
        rw [HR2.out]
        exact ⟨rfl, rfl⟩
    · have hnl : decide ((k : Int) < p.length) = false := by simp; omega
      have HR2 : Hid (R = some n') := by
        show R = _
        rw [← Hat.out, List.drop_eq_nil_of_le (by omega)]
        rfl
      clear hnc
      go_wp2_with fail
      go_ret2
      rw [HR2.out]
      exact ⟨⟨b', off', rfl, Hn'.out⟩, rfl⟩

theorem atN_wt : ∀ (p : List Int) (n m : NodeD), atN n p = some m → m.wt ≤ n.wt
  | [], n, m, h => by unfold atN at h; injection h with h; subst h; exact Nat.le_refl _
  | i :: p, n, m, h => by
    unfold atN at h
    split at h
    · split at h
      · rename_i k hk
        have h1 := atN_wt p k m h
        obtain ⟨l, ps, t, ks⟩ := n
        have hm : k ∈ ks := List.mem_of_getElem? hk
        have := wtAll_mem hm
        simp only [NodeD.wt]
        omega
      · cases h
    · cases h
def GetP (W : World) (R : Option NodeD) (e : Ending) (w' : World) : Prop :=
  match R with
  | some m => ∃ cs, e = .returned (.tuple #[.agg cs.toArray, .int .i64 0]) ∧ NodeQ w' (fun b => W.heap.size ≤ b) m cs ∧ Below W.heap.size W w'
  | none => e = .returned (.tuple #[.agg #[.bool false, .slice none 0 0, .slice none 0 0, .slice none 0 0], .int .i64 5]) ∧ Below W.heap.size W w'

set_option maxRecDepth 100000 in
set_option maxHeartbeats 2000000 in
theorem get_c (n : NodeD) (p : List Int) (v : Value) (pa : Option Addr) (pc : Nat) (W : World) (hbig : n.wt ≤ 100000000) (hv : NodeV W W.heap.size n v) (hp : RowA W W.heap.size 1 pa p.length pc (p.map (Value.int .i64))) :
    Calls Tryd.prog 11 #[v, .slice pa p.length pc] W (GetP W (atN n p)) := by
  have hwt := atN_wt p n
  obtain ⟨csn, rfl, hc⟩ := hv
  obtain ⟨l, a1, n1, c1, a2, n2, c2, a3, n3, c3, rfl⟩ := hc.form
  have hA := (NodeAt.fresh W (.bool l) (.slice a1 n1 c1) (.slice a2 n2 c2) (.slice a3 n3 c3)).alloc (Obj.cells #[.bool false, .slice none 0 0, .slice none 0 0, .slice none 0 0] 26)
  have hB := node_second W (Obj.cells #[.bool l, .slice a1 n1 c1, .slice a2 n2 c2, .slice a3 n3 c3] 26) (.bool false) (.slice none 0 0) (.slice none 0 0) (.slice none 0 0)
  have hb0 : Below W.heap.size W ((W.alloc (Obj.cells #[.bool l, .slice a1 n1 c1, .slice a2 n2 c2, .slice a3 n3 c3] 26)).alloc (Obj.cells #[.bool false, .slice none 0 0, .slice none 0 0, .slice none 0 0] 26)) := ((Below.refl _ _).alloc (Nat.le_refl _) _).alloc (by simp) _
  have hs0 : ((W.alloc (Obj.cells #[.bool l, .slice a1 n1 c1, .slice a2 n2 c2, .slice a3 n3 c3] 26)).alloc (Obj.cells #[.bool false, .slice none 0 0, .slice none 0 0, .slice none 0 0] 26)).heap.size = W.heap.size + 2 := by simp
  obtain ⟨y0, y1, y2, y3, -, -⟩ := hA.facts
  have HAt := Lib.hid (at_c n p pa pc W.heap.size 0 W.heap.size _ ⟨l, a1, n1, c1, a2, n2, c2, a3, n3, c3, NodeC.keep hb0 (Nat.le_refl _) _ _ hc, y0, y1, y2, y3⟩ (hp.keep hb0 (Nat.le_refl _)))
  have Hb0 := Lib.hid hb0; have HB := Lib.hid hB; have Hs0 := Lib.hid hs0
  clear hc hA hB hb0 hs0 y0 y1 y2 y3 hp
  cases hat : atN n p with
  | none =>
    rw [hat] at HAt
    clear hat hwt
    go_enter Tryd.func11, Tryd.ntmps11
    go_wp2_with fail
    refine HAt.out.mono ?_
    rintro e w1 ⟨rfl, rfl⟩
    clear HAt
    go_wp2_with fail
    refine bodyPost_ret (v := .tuple #[.agg #[.bool false, .slice none 0 0, .slice none 0 0, .slice none 0 0], .int .i64 5]) (by simp [results, Tryd.results11, go_sem]) rfl ?_
    exact ⟨rfl, Hb0.out⟩
  | some m =>
    rw [hat] at HAt
    have hmw := hwt m hat
    clear hat hwt
    go_enter Tryd.func11, Tryd.ntmps11
    obtain ⟨w0, hw0⟩ : ∃ w0, w0 = (W.alloc (Obj.cells #[.bool l, .slice a1 n1 c1, .slice a2 n2 c2, .slice a3 n3 c3] 26)).alloc (Obj.cells #[.bool false, .slice none 0 0, .slice none 0 0, .slice none 0 0] 26) := ⟨_, rfl⟩
    go_wp2_with fail
    rw [← hw0] at HAt Hb0 HB Hs0 ⊢
    refine HAt.out.mono ?_
    rintro e w1 ⟨⟨b, off, rfl, l', b1, o1, d1, b2, o2, d2, b3, o3, d3, hmc, x0, x1, x2, x3⟩, rfl⟩
    have HC := Lib.hid (copy_c m.wt m (.agg #[.bool l', .slice b1 o1 d1, .slice b2 o2 d2, .slice b3 o3 d3]) w0 (Nat.le_refl _) (by omega) ⟨_, rfl, NodeC.keep (Below.refl _ _) (by rw [Hs0.out]; omega) _ _ hmc⟩)
    clear HAt hw0 hmc
    go_wp2_with fail
    refine HC.out.mono ?_
    rintro e w2 ⟨cs, rfl, hnode, hbel⟩
    obtain ⟨m1, p1, q1, r1, p2, q2, r2, p3, q3, r3, rfl⟩ := hnode.form
    have hB2 := HB.out.keep (hbel.mono (by rw [Hs0.out]; omega))
    obtain ⟨z0, z1, z2, z3, ⟨g0, g1, g2, g3⟩, hB5⟩ := hB2.facts
    have Hb2 := Lib.hid (Hb0.out.trans (hbel.mono (by rw [Hs0.out]; omega)))
    have Hnode := Lib.hid hnode
    clear HC hnode hbel x0 x1 x2 x3 hB2 HB
    go_wp2_with fail
    refine bodyPost_ret (v := .tuple #[.agg #[.bool m1, .slice p1 q1 r1, .slice p2 q2 r2, .slice p3 q3 r3], .int .i64 0]) (by simp [results, Tryd.results11, go_sem, z0, z1, z2, z3]) rfl ?_
    have hne : ¬ (w0.heap.size ≤ W.heap.size + 1) := by rw [Hs0.out]; omega
    refine ⟨_, rfl, ?_, ?_⟩
    · have hq := nodeq_set (N := W.heap.size + 1) (o := 3) (u := .slice p3 q3 r3) (nodeq_set (N := W.heap.size + 1) (o := 2) (u := .slice p2 q2 r2) (nodeq_set (N := W.heap.size + 1) (o := 1) (u := .slice p1 q1 r1) (nodeq_set (N := W.heap.size + 1) (o := 0) (u := .bool m1) Hnode.out hne) hne) hne) hne
      exact NodeQ.keep (Nat.le_refl _) (fun _ _ _ => rfl) (fun b hb _ => by rw [Hs0.out] at hb; omega) _ _ hq
    · with_reducible exact below_all Hb2.out (Nat.le_succ _) _ _ _ _

end Go.Proofs.YtmhgbocejjnoaaaDoor
/- Plain words: the paths of a tree; lists of paths in memory; a clone of a path. -/
namespace Go.Proofs.YtmhgbocejjnoaaaDoor
open Go.RowKit Go.Redl
set_option linter.unusedVariables false

theorem info_int : (Tryd.prog.info? 3).map (fun i => (i.zero, i.size, i.bytes)) = some (some (.int .i64 0), 1, 8) := by kernel_rfl
set_option maxRecDepth 100000 in
set_option maxHeartbeats 400000 in
theorem clone_int (B n : Nat) (a : Option Addr) (cap : Nat) (cs : List Value) (w : World) (hr : RowA w B 1 a n cap cs) (hB : B ≤ w.heap.size) (hn : n ≤ 100000000) :
    Calls Tryd.prog 45 #[.slice a n cap] w (MadeRow w 3 1 n cs) := by
  have hel := fun (w : World) => Lib.run_eql_slice_nil w (P := Tryd.prog) 35 3 a n cap 0 0 Tryd.underlying35
  cases ha : a with
  | none =>
    subst ha
    obtain rfl := hr.nil rfl
    obtain rfl : n = 0 := by have := hr.le; omega
    have hcs : cs = [] := List.eq_nil_of_length_eq_zero (by simpa using hr.len)
    subst hcs
    go_enter Tryd.func45, Tryd.ntmps45
    go_wp2_with fail
    go_ret
    exact ⟨_, rfl, World.ownsRow_nil _ _ _ _, Below.refl _ _⟩
  | some ad =>
    subst ha
    go_enter Tryd.func45, Tryd.ntmps45
    go_wp2_with (at_builtin; refine wpList_app rfl _ _ 35 rfl w.heap.size 3 (.int .i64 0) 1 8 Tryd.underlying35 info_int rfl (by decide) _ 0 [] rfl ?hown _ n cap B cs rfl ?hr ?h63 ?hb ?hbase ?_)
    case hown => exact World.ownsRow_lit w #[] 0 (Nat.le_refl _) (Nat.zero_le _) rfl
    case hr => exact hr.keep ((Below.refl _ _).alloc hB _) (Nat.le_refl _)
    case h63 => unfold maxLen; omega
    case hb => omega
    case hbase => simp
    intro v' w1 hown hgrow
    have Ho := Lib.hid hown; have Hg := Lib.hid hgrow; clear hown hgrow hel hr
    go_wp2_with fail
    go_ret
    refine ⟨v', rfl, by simpa using Ho.out, ((Below.refl _ _).alloc (Nat.le_refl _) _).grown Hg.out (by simp) ?_⟩
    simp [Value.ownBlock]


mutual
/-- The paths of a node at p, and of all in it, that are wanted. -/
def pathsW (want : NodeD → Bool) : NodeD → List Int → List (List Int)
  | .mk l ps t ks, p => (if want (.mk l ps t ks) then [p] else []) ++ pathsK want ks 0 p
def pathsK (want : NodeD → Bool) : List NodeD → Nat → List Int → List (List Int)
  | [], _, _ => []
  | k :: ks, i, p => pathsW want k (p ++ [(i : Int)]) ++ pathsK want ks (i + 1) p
end
/-- A list of paths: its cells, each a row of numbers in blocks that ok lets in. -/
def PathsQ (w : World) (ok : Nat → Prop) : List (List Int) → List Value → Prop
  | [], cs => cs = []
  | zs :: l, cs => ∃ a cap cs', cs = .slice a zs.length cap :: cs' ∧ RowQ w ok 1 a zs.length cap (zs.map (Value.int .i64)) ∧ PathsQ w ok l cs'
theorem PathsQ.keep {w w' : World} {ok ok' : Nat → Prop} (hs : w.heap.size ≤ w'.heap.size) (hk : ∀ b, ok b → b < w.heap.size → w'.heap[b]? = w.heap[b]?) (ho : ∀ b, ok b → b < w.heap.size → ok' b) : ∀ {l : List (List Int)} {cs : List Value}, PathsQ w ok l cs → PathsQ w' ok' l cs
  | [], cs, h => h
  | zs :: l, cs, h => by
    obtain ⟨a, cap, cs', h1, h2, h3⟩ := h
    exact ⟨a, cap, cs', h1, h2.keep hs hk ho, PathsQ.keep hs hk ho h3⟩
theorem PathsQ.len {w : World} {ok : Nat → Prop} : ∀ {l : List (List Int)} {cs : List Value}, PathsQ w ok l cs → cs.length = l.length
  | [], cs, h => by subst h; rfl
  | zs :: l, cs, h => by
    obtain ⟨a, cap, cs', rfl, h2, h3⟩ := h
    simp [PathsQ.len h3]
theorem PathsQ.one {w : World} {ok : Nat → Prop} : ∀ {l : List (List Int)} {cs : List Value}, PathsQ w ok l cs → ∀ u ∈ cs, u.oneCell' = true
  | [], cs, h => by subst h; simp
  | zs :: l, cs, h => by
    obtain ⟨a, cap, cs', rfl, h2, h3⟩ := h
    intro u hu
    rcases List.mem_cons.1 hu with rfl | hu
    · rfl
    · exact PathsQ.one h3 u hu
theorem PathsQ.snoc {w : World} {ok : Nat → Prop} {zs : List Int} {a : Option Addr} {cap : Nat} (hr : RowQ w ok 1 a zs.length cap (zs.map (Value.int .i64))) : ∀ {l : List (List Int)} {cs : List Value}, PathsQ w ok l cs → PathsQ w ok (l ++ [zs]) (cs ++ [.slice a zs.length cap])
  | [], cs, h => by subst h; exact ⟨a, cap, [], rfl, hr, rfl⟩
  | ys :: l, cs, h => by
    obtain ⟨b, c, cs', rfl, h2, h3⟩ := h
    exact ⟨b, c, cs' ++ [.slice a zs.length cap], rfl, h2, PathsQ.snoc hr h3⟩

end Go.Proofs.YtmhgbocejjnoaaaDoor
/- Plain words: append onto a full row; what a growing list of rows leaves. -/
namespace Go.Proofs.YtmhgbocejjnoaaaDoor
open Go.RowKit Go.Redl
set_option linter.unusedVariables false

theorem _root_.Go.Redl.RowA.full {w : World} {B sz n cap : Nat} {a : Option Addr} {cs : List Value} (h : RowA w B sz a n cap cs) : RowA w B sz a n n cs :=
  ⟨h.len, Nat.le_refl _, Nat.le_trans h.le h.max, h.one, fun e => by have := h.nil e; have := h.le; omega, h.some_⟩
theorem below_of_grown {w w' : World} (h : w.grownBy w' none) : Below w.heap.size w w' := ⟨h.os, h.tape, h.output, h.size, fun i hi => h.block i hi (by simp)⟩
/-- append(p[:n:n], xs...): a row of its own, always. -/
theorem run_grow_full {P : Program} (w : World) (t ty e : TypeId) (i : TypeInfo) (z : Value) (size bytes : Nat) (ht : P.underlying t = some (.slice e)) (hi : P.info? e = some i) (hz : i.zero = some z)
    (hsize : i.size = size) (hby : i.bytes = bytes) (hzs : z.cells.size = size) (hsz : 0 < size)
    (a : Option Addr) (n B : Nat) (xs : List Value) (hr : RowA w B size a n n xs)
    (ad : Addr) (m c : Nat) (news : List Value) (hm : 0 < m) (hl : news.length = m * size) (hnews : ∀ j u, news[j]? = some u → w.cell? (ad.add j) = some u) (h1 : ∀ u ∈ news, u.oneCell' = true)
    (h63 : n + m ≤ maxLen) (hbytes : (n + m) * bytes ≤ 140737488355328) :
    ∃ v' w', (Builtin.append_ #[t, t] ty #[.slice a n n, .slice (some ad) m c]).run P w = .ok v' w' ∧ w'.ownsRow w.heap.size e size v' (n + m) (xs ++ news) ∧ Below w.heap.size w w' := by
  cases a with
  | none =>
    have hn : n = 0 := hr.nil rfl
    subst hn
    have hx : xs = [] := List.eq_nil_of_length_eq_zero (by simpa using hr.len)
    subst hx
    obtain ⟨v', w', h, h2, h3, -⟩ := run_append_own (P := P) w w.heap.size t ty e i z size bytes ht hi hz hsize hby hzs hsz (.slice none 0 0) 0 [] (World.ownsRow_nil _ _ _ _) ad m c news hl hnews h1 h63 hbytes (Nat.le_refl _)
    exact ⟨v', w', h, h2, below_of_grown h3⟩
  | some b =>
    subst hsize
    subst hby
    have h := run_append_grow (P := P) w t ty e i z ht hi hz b n n xs hr.len hr.cells ad m c news hl hnews (by omega) (by unfold maxLen at h63; omega) (growslice_fits (by omega) hbytes)
    have hge := grownCap_ge w (n + m) n e
    have hcm : grownCap w (n + m) n e ≤ maxLen := grownCap_le_maxLen w (n + m) n e h63
    have hlen : (xs ++ news).length = (n + m) * i.size := by rw [List.length_append, hr.len, hl, Nat.add_mul]
    refine ⟨_, _, h, ⟨hlen, .inr ⟨w.heap.size, _, _, rfl, Nat.le_refl _, heap_alloc_new w.drew _, hge, hcm, ?_, ?_⟩⟩, ⟨rfl, rfl, rfl, by simp, fun k hk => heap_alloc_old w.drew _ (show k < w.drew.heap.size from hk)⟩⟩
    · simp only [Array.size_append, List.size_toArray, size_zeroCells, hzs, hr.len, hl, ← Nat.add_mul]
      congr 1
      omega
    · simp only [Array.toList_append, List.append_assoc]
      rw [← List.append_assoc, ← hlen]
      exact List.take_left
/-- The same as one step of a region that draws. -/
theorem step_grow {P : Program} {ops : Array Oper} {o : Oper} {a : Act} {w : World} {K : Act → World → Prop} {Q : Exit → Act → World → Prop} {E : Prop}
    (hg : o.guard = none) (s x : Operand) (t : TypeId) (ho : o.op = .call { callee := .builtin .append, args := #[s, x], argTypes := #[t, t] })
    (e : TypeId) (z : Value) (size bytes : Nat) (ht : P.underlying t = some (.slice e)) (hi : (P.info? e).map (fun i => (i.zero, i.size, i.bytes)) = some (some z, size, bytes))
    (hzs : z.cells.size = size) (hsz : 0 < size)
    (av : Option Addr) (n B0 : Nat) (xs : List Value) (hs : a.eval s = .slice av n n) (hown : RowA w B0 size av n n xs)
    (ad : Addr) (m c B : Nat) (news : List Value) (hx : a.eval x = .slice (some ad) m c) (hr : RowA w B size (some ad) m c news) (hm : 0 < m)
    (h63 : n + m ≤ maxLen) (hbytes : (n + m) * bytes ≤ 140737488355328)
    (h : ∀ v' w', w'.ownsRow w.heap.size e size v' (n + m) (xs ++ news) → Below w.heap.size w w' → K (a.put o.dst v') w') : if Region.wanted o (yielded ops a.tmps) = true then Oper.wp P o a w K Q else E := by
  have hw : Region.wanted o (yielded ops a.tmps) = true := by simp [Region.wanted, hg]
  rw [if_pos hw]
  obtain ⟨i, hi', hz, hsize, hby⟩ := info_parts hi
  obtain ⟨v', w', hrun, h2, h3⟩ := run_grow_full (P := P) w t o.type e i z size bytes ht hi' hz hsize hby hzs hsz av n B0 xs hown ad m c news hm hr.len hr.cells hr.one h63 hbytes
  unfold Oper.wp execOp
  simp only [ho, resolve, invoke, builtin, Sem.run_bind, Sem.run_pure, Result.andThen_ok, List.map_toArray, List.map_cons, List.map_nil, hs, hx, hrun]
  exact h v' w' h2 h3

/-- A box holds a list's row; from v to v' nothing else that was there is written. -/
structure Grew (ob : Nat) (v v' : Value) (w w' : World) : Prop where
  os : w'.os = w.os
  tape : w'.tape = w.tape
  output : w'.output = w.output
  size : w.heap.size ≤ w'.heap.size
  block : ∀ b, b < w.heap.size → b ≠ ob → v.ownBlock ≠ some b → w'.heap[b]? = w.heap[b]?
  where_ : v'.ownBlock = v.ownBlock ∨ ∀ k, v'.ownBlock = some k → w.heap.size ≤ k

theorem Grew.refl (ob : Nat) (v : Value) (w : World) : Grew ob v v w w := ⟨rfl, rfl, rfl, Nat.le_refl _, fun _ _ _ _ => rfl, .inl rfl⟩
theorem Grew.trans {ob : Nat} {v1 v2 v3 : Value} {w1 w2 w3 : World} (h : Grew ob v1 v2 w1 w2) (k : Grew ob v2 v3 w2 w3) : Grew ob v1 v3 w1 w3 := by
  refine ⟨k.os.trans h.os, k.tape.trans h.tape, k.output.trans h.output, Nat.le_trans h.size k.size, fun b hb hne hv => ?_, ?_⟩
  · rw [k.block b (Nat.lt_of_lt_of_le hb h.size) hne ?_, h.block b hb hne hv]
    rcases h.where_ with e | e
    · rw [e]; exact hv
    · intro e2; have := e b e2; omega
  · have := h.size
    rcases k.where_ with e | e
    · rw [e]; exact h.where_
    · exact .inr fun k hk => by have := e k hk; omega
theorem Grew.then {ob : Nat} {v1 v2 : Value} {w1 w2 w3 : World} (h : Grew ob v1 v2 w1 w2) (k : Below w2.heap.size w2 w3) : Grew ob v1 v2 w1 w3 :=
  h.trans ⟨k.os, k.tape, k.output, k.size, fun b hb _ _ => k.block b hb, .inl rfl⟩
theorem Grew.ahead {ob : Nat} {v1 v2 : Value} {w1 w2 w3 : World} (k : Below w1.heap.size w1 w2) (h : Grew ob v1 v2 w2 w3) : Grew ob v1 v2 w1 w3 :=
  Grew.trans ⟨k.os, k.tape, k.output, k.size, fun b hb _ _ => k.block b hb, .inl rfl⟩ h
theorem Grew.stay {ob M : Nat} {v v' : Value} {w w' : World} (h : Grew ob v v' w w') (hob : ob < M) : Stay w w' (fun b => M ≤ b ∧ v.ownBlock ≠ some b) (fun b => M ≤ b ∧ v'.ownBlock ≠ some b) := by
  refine ⟨h.size, fun b hb hlt => h.block b hlt (by omega) hb.2, fun b hb hlt => ⟨hb.1, ?_⟩⟩
  rcases h.where_ with e | e
  · rw [e]; exact hb.2
  · intro e2; have := e b e2; omega
theorem Grew.below {ob B : Nat} {v v' : Value} {w w' : World} (h : Grew ob v v' w w') (hB : B ≤ ob) (hw : B ≤ w.heap.size) (hv : ∀ k, v.ownBlock = some k → B ≤ k) : Below B w w' :=
  ⟨h.os, h.tape, h.output, h.size, fun b hb => h.block b (by omega) (by omega) (fun e => by have := hv b e; omega)⟩
theorem PathsQ.stay {w w' : World} {ok ok' : Nat → Prop} {l : List (List Int)} {cs : List Value} (h : PathsQ w ok l cs) (s : Stay w w' ok ok') : PathsQ w' ok' l cs := h.keep s.size s.block s.let_

end Go.Proofs.YtmhgbocejjnoaaaDoor
/- Walks: tree's paths: the function asked at each node, the list that grows. -/
namespace Go.Proofs.YtmhgbocejjnoaaaDoor
open Go.RowKit Go.Redl
set_option linter.unusedVariables false

/-- A call of a function value as one step of a region that draws, met by its contract. -/
theorem step_callv {P : Program} {ops : Array Oper} {o : Oper} {a : Act} {w : World} {K : Act → World → Prop} {Q : Exit → Act → World → Prop} {E : Prop}
    (hg : o.guard = none) (f : FuncId) (s : Operand) (caps : Array Value) (args : Array Operand) (tys : Array TypeId) (ho : o.op = .call { callee := .value s, args := args, argTypes := tys }) (hs : a.eval s = .func (.func f) #[] caps)
    (he : ∀ args w, (callFunc f args).run P w = .ok (.enter f args) w) (vals : List Value) (hv : args.toList.map a.eval = vals) (R : Ending → World → Prop) (hC : Calls P f (vals.toArray ++ caps) w R)
    (h : ∀ e w', R e w' → ∃ v, e = .returned v ∧ K (a.put o.dst v) w') : if Region.wanted o (yielded ops a.tmps) = true then Oper.wp P o a w K Q else E := by
  have hw : Region.wanted o (yielded ops a.tmps) = true := by simp [Region.wanted, hg]
  rw [if_pos hw]
  unfold Oper.wp
  have hv' : args.map a.eval = vals.toArray := by rw [← hv]; apply Array.ext'; simp
  have hr : (execOp a.eval o).run P w = .ok (.enter f (vals.toArray ++ caps)) w := by
    simp [execOp, ho, resolve, invoke, hs, Deferred.ofValue, hv', he]
  rw [hr]
  show Calls P f (vals.toArray ++ caps) w _
  refine hC.mono fun e w' hR => ?_
  obtain ⟨v, rfl, hk⟩ := h e w' hR
  exact hk

theorem info_slc : (Tryd.prog.info? 35).map (fun i => (i.zero, i.size, i.bytes)) = some (some (.slice none 0 0), 1, 24) := by kernel_rfl
theorem paths1_ent : ∀ args w, (callFunc 44 args).run Tryd.prog w = .ok (.enter 44 args) w := by intro args w; kernel_rfl
theorem cln_int_ent : ∀ args w, (callFunc 45 args).run Tryd.prog w = .ok (.enter 45 args) w := by intro args w; kernel_rfl

/-- The asked function's contract. -/
def WantC (B cb : Nat) (caps : Array Value) (want : NodeD → Bool) (M : Nat) : Prop :=
  ∀ (n : NodeD) (v : Value) (W : World), n.wt ≤ M → NodeV W B n v → B ≤ W.heap.size → Calls Tryd.prog cb (#[v] ++ caps) W fun e w' => e = .returned (.bool (want n)) ∧ Below W.heap.size W w'
/-- The three variables, and the list. -/
structure BoxesAt (W : World) (tb ob eb cb : Nat) (caps : Array Value) (M : Nat) (l : List (List Int)) (ov : Value) (cs : List Value) : Prop where
  t : W.heap[tb]? = some (Obj.cells #[.func (.func cb) #[] caps] 32 (0, 0))
  e : W.heap[eb]? = some (Obj.cells #[.func (.func 44) #[] #[.pointer (some ⟨tb, 0, none⟩), .pointer (some ⟨ob, 0, none⟩), .pointer (some ⟨eb, 0, none⟩)]] 80 (0, 0))
  o : W.heap[ob]? = some (Obj.cells #[ov] 33 (0, 0))
  own : W.ownsRow M 35 1 ov l.length cs
  rows : PathsQ W (fun b => M ≤ b ∧ ov.ownBlock ≠ some b) l cs
  lt : tb < M ∧ ob < M ∧ eb < M ∧ tb ≠ ob ∧ eb ≠ ob
theorem BoxesAt.below {W W' : World} {tb ob eb cb M : Nat} {caps : Array Value} {l : List (List Int)} {ov : Value} {cs : List Value} (h : BoxesAt W tb ob eb cb caps M l ov cs) (hb : Below W.heap.size W W') : BoxesAt W' tb ob eb cb caps M l ov cs :=
  ⟨by rw [hb.block _ (Array.getElem?_eq_some_iff.1 h.t).1]; exact h.t, by rw [hb.block _ (Array.getElem?_eq_some_iff.1 h.e).1]; exact h.e, by rw [hb.block _ (Array.getElem?_eq_some_iff.1 h.o).1]; exact h.o,
    own_keep h.own hb, h.rows.keep hb.size (fun b _ hlt => hb.block b hlt) (fun _ hb _ => hb), h.lt⟩
theorem BoxesAt.cells {W : World} {tb ob eb cb M : Nat} {caps : Array Value} {l : List (List Int)} {ov : Value} {cs : List Value} (h : BoxesAt W tb ob eb cb caps M l ov cs) :
    W.cell? ⟨tb, 0, none⟩ = some (.func (.func cb) #[] caps) ∧ W.cell? ⟨eb, 0, none⟩ = some (.func (.func 44) #[] #[.pointer (some ⟨tb, 0, none⟩), .pointer (some ⟨ob, 0, none⟩), .pointer (some ⟨eb, 0, none⟩)]) ∧
      W.cell? ⟨ob, 0, none⟩ = some ov ∧ W.frozen? ⟨ob, 0, none⟩ = false ∧ tb < W.heap.size ∧ ob < W.heap.size ∧ eb < W.heap.size :=
  ⟨by rw [cell_of_row _ _ _ _ _ _ h.t]; rfl, by rw [cell_of_row _ _ _ _ _ _ h.e]; rfl, by rw [cell_of_row _ _ _ _ _ _ h.o]; rfl, Lib.frozen_of_heap h.o _, (Array.getElem?_eq_some_iff.1 h.t).1, (Array.getElem?_eq_some_iff.1 h.o).1, (Array.getElem?_eq_some_iff.1 h.e).1⟩
theorem BoxesAt.notOwn {W : World} {tb ob eb cb M : Nat} {caps : Array Value} {l : List (List Int)} {ov : Value} {cs : List Value} (h : BoxesAt W tb ob eb cb caps M l ov cs) {b : Nat} (hb : b < M ∨ W.heap.size ≤ b) : ov.ownBlock ≠ some b := by
  intro e; have := h.own.lt b e; omega
/-- One more path put in. -/
theorem BoxesAt.push {w1 w2 w3 : World} {tb ob eb cb M : Nat} {caps : Array Value} {l : List (List Int)} {ov v' : Value} {cs : List Value} {zs : List Int} {pa : Option Addr} {pc : Nat} {o : Obj}
    (h : BoxesAt w1 tb ob eb cb caps M l ov cs) (hM : M ≤ w1.heap.size) (h1 : Below w1.heap.size w1 w2) (hr : RowQ w2 (fun b => w1.heap.size ≤ b) 1 pa zs.length pc (zs.map (Value.int .i64)))
    (hg : (w2.alloc o).grownBy w3 ov.ownBlock) (hown : w3.ownsRow M 35 1 v' (l.length + 1) (cs ++ [.slice pa zs.length pc])) (hw : v'.ownBlock = ov.ownBlock ∨ ∀ k, v'.ownBlock = some k → (w2.alloc o).heap.size ≤ k) :
    BoxesAt (w3.setCell ⟨ob, 0, none⟩ v') tb ob eb cb caps M (l ++ [zs]) v' (cs ++ [.slice pa zs.length pc]) ∧ Grew ob ov v' w1 (w3.setCell ⟨ob, 0, none⟩ v') := by
  have s1 := h1.size
  have hb2 := (Below.refl w2.heap.size w2).alloc (Nat.le_refl _) o
  have s2 := hb2.size; have s3 := hg.size
  obtain ⟨l1, l2, l3, n1, n2⟩ := h.lt
  have hblk : ∀ b, b < w1.heap.size → ov.ownBlock ≠ some b → w3.heap[b]? = w1.heap[b]? := fun b hb hne => by
    rw [hg.block b (by omega) (fun e => hne e.symm), hb2.block b (by omega), h1.block b hb]
  have hset : ∀ b, b ≠ ob → (w3.setCell ⟨ob, 0, none⟩ v').heap[b]? = w3.heap[b]? := fun b hb => Below.heap_setCell _ ⟨ob, 0, none⟩ _ b hb
  have ho3 : w3.heap[ob]? = some (Obj.cells #[ov] 33 (0, 0)) := by rw [hblk ob (by omega) (h.notOwn (.inl l2))]; exact h.o
  have hst1 := stay_kids h.own h1 hb2 hg hw
  have hst2 := stay_kid h.own hM hb2 hg hw
  have hne : ∀ b, M ≤ b → b ≠ ob := fun b hb => by omega
  refine ⟨⟨?_, ?_, ?_, ?_, ?_, h.lt⟩, ⟨?_, ?_, ?_, ?_, fun b hb hne hv => ?_, ?_⟩⟩
  · rw [hset tb n1, hblk tb (by omega) (h.notOwn (.inl l1))]; exact h.t
  · rw [hset eb n2, hblk eb (by omega) (h.notOwn (.inl l3))]; exact h.e
  · exact Lib.heap_setCell_same (i := 0) ho3 _
  · rw [List.length_append]
    exact ownsRow_setCell_below (a := ⟨ob, 0, none⟩) hown l2 _
  · have hq : PathsQ w3 (fun b => M ≤ b ∧ v'.ownBlock ≠ some b) (l ++ [zs]) (cs ++ [.slice pa zs.length pc]) := PathsQ.snoc (hr.stay hst2) (h.rows.stay hst1)
    exact hq.keep (by simp [World.setCell]) (fun b hb _ => hset b (hne b hb.1)) (fun b hb _ => hb)
  · show w3.os = _; rw [hg.os, hb2.os, h1.os]
  · show w3.tape = _; rw [hg.tape, hb2.tape, h1.tape]
  · show w3.output = _; rw [hg.output, hb2.output, h1.output]
  · simp [World.setCell]; omega
  · rw [hset b hne]; exact hblk b hb hv
  · rcases hw with e | e
    · exact .inl e
    · exact .inr fun k hk => by have := e k hk; omega

def PathsP (tb ob eb cb : Nat) (caps : Array Value) (M : Nat) (ov : Value) (W : World) (l' : List (List Int)) (e : Ending) (w' : World) : Prop :=
  e = .returned (.tuple #[]) ∧ ∃ ov' cs', BoxesAt w' tb ob eb cb caps M l' ov' cs' ∧ Grew ob ov ov' W w'

theorem pathsK_step {want : NodeD → Bool} {ks : List NodeD} {k : Nat} {p : List Int} (h : k < ks.length) : pathsK want (ks.drop k) k p = pathsW want ks[k] (p ++ [(k : Int)]) ++ pathsK want (ks.drop (k + 1)) (k + 1) p := by
  conv => lhs; rw [List.drop_eq_getElem_cons h]
  simp only [pathsK]

mutual
theorem pathsW_len (want : NodeD → Bool) : ∀ (n : NodeD) (p : List Int), (pathsW want n p).length ≤ n.wt
  | .mk l ps t ks, p => by
    unfold pathsW
    have := pathsK_len want ks 0 p
    simp only [List.length_append, NodeD.wt]
    split <;> simp <;> omega
theorem pathsK_len (want : NodeD → Bool) : ∀ (ks : List NodeD) (i : Nat) (p : List Int), (pathsK want ks i p).length ≤ wtAll ks
  | [], i, p => by unfold pathsK; simp
  | k :: ks, i, p => by
    unfold pathsK
    have h1 := pathsW_len want k (p ++ [(i : Int)])
    have h2 := pathsK_len want ks (i + 1) p
    simp only [List.length_append, wtAll]
    omega
end

end Go.Proofs.YtmhgbocejjnoaaaDoor
/- Walks: tree's paths: the function that calls itself. -/
namespace Go.Proofs.YtmhgbocejjnoaaaDoor
open Go.RowKit Go.Redl
set_option linter.unusedVariables false

section
variable {tb ob eb cb B MX M : Nat} {caps : Array Value} {want : NodeD → Bool}

set_option maxRecDepth 100000 in
set_option maxHeartbeats 4000000 in
theorem paths1_c (hcb : ∀ args w, (callFunc cb args).run Tryd.prog w = .ok (.enter cb args) w) (hA : WantC B cb caps want MX) (hBo : B ≤ ob) (hBM : B ≤ M) (m : Nat) :
    ∀ (n : NodeD) (v : Value) (p : List Int) (pa : Option Addr) (pc : Nat) (l : List (List Int)) (ov : Value) (cs : List Value) (W : World), n.wt ≤ m → n.wt ≤ MX → l.length + n.wt ≤ 1000000000 → p.length + n.wt ≤ 100000000 → NodeV W B n v → M ≤ W.heap.size →
      BoxesAt W tb ob eb cb caps M l ov cs → RowQ W (fun b => M ≤ b ∧ ov.ownBlock ≠ some b) 1 pa p.length pc (p.map (Value.int .i64)) →
      Calls Tryd.prog 44 #[v, .slice pa p.length pc, .pointer (some ⟨tb, 0, none⟩), .pointer (some ⟨ob, 0, none⟩), .pointer (some ⟨eb, 0, none⟩)] W (PathsP tb ob eb cb caps M ov W (l ++ pathsW want n p)) := by
  induction m with
  | zero => intro n v p pa pc l ov cs W hm; have := wt_pos n; omega
  | succ m ih =>
    intro n v p pa pc l ov cs W hm hMX hl hpn hv hM hbx hrow
    have IH := Lib.hid ih
    have hv0 := hv
    obtain ⟨lf, ps, t, ks⟩ := n
    obtain ⟨ap, cp, at_, ct, ak, ck, css, rfl, -, -, hk, hc⟩ := hv0.open
    have hwt : 1 + propsWt ps + t.length + wtAll ks = (NodeD.mk lf ps t ks).wt := rfl
    have hb0 := (Below.refl W.heap.size W).alloc (Nat.le_refl _) (Obj.cells #[.bool lf, .slice ap ps.length cp, .slice at_ t.length ct, .slice ak ks.length ck] 26)
    have HW := Lib.hid (hA (.mk lf ps t ks) _ _ hMX (hv.keep (hb0.mono (Nat.le_trans hBM hM)) (Nat.le_refl _)) (by simp; omega))
    obtain ⟨R, hR⟩ : ∃ R, R = l ++ pathsW want (.mk lf ps t ks) p := ⟨_, rfl⟩
    rw [← hR]
    obtain ⟨b, hb⟩ : ∃ b, b = want (.mk lf ps t ks) := ⟨_, rfl⟩
    rw [← hb] at HW
    have HR : Hid ((l ++ if b = true then [p] else []) ++ pathsK want ks 0 p = R) := by
      show _ = R
      rw [hR, hb, pathsW, List.append_assoc]
    have hw3 : ∀ q ∈ ks, q.wt ≤ m ∧ q.wt ≤ MX ∧ q.wt ≤ wtAll ks := fun q hq => by have := wtAll_mem hq; omega
    have hpl : p.length + 1 ≤ 100000000 := by omega
    have hll : l.length + 1 + wtAll ks ≤ 1000000000 := by omega
    have hpw : p.length + 1 + wtAll ks ≤ 100000000 := by omega
    have hkl : ks.length ≤ 100000000 := by have := wtAll_len ks; omega
    have hA0 := NodeAt.fresh W (.bool lf) (.slice ap ps.length cp) (.slice at_ t.length ct) (.slice ak ks.length ck)
    have Hw3 := Lib.hid hw3; have Hb0 := Lib.hid hb0; have Hbx := Lib.hid hbx; have Hrow := Lib.hid hrow; have Hk := Lib.hid hk; have Hc := Lib.hid hc; have HA0 := Lib.hid hA0
    obtain ⟨e1, e2, e3, e4, l1, l2, l3⟩ := hbx.cells
    clear hw3 hb0 hbx hrow hk hc hA0 hv hv0 hwt hm hMX hl hpn hR hb ih hA e2 e3 e4
    go_enter Tryd.func44, Tryd.ntmps44
    go_wp2_with fail
    refine HW.out.mono ?_
    rintro e w1 ⟨rfl, hbel⟩
    have hbel' : Below W.heap.size W w1 := Hb0.out.trans (hbel.mono Hb0.out.size)
    have HA1 := Lib.hid (HA0.out.keep (hbel.mono (by simp)))
    have Hbx1 := Lib.hid (Hbx.out.below hbel')
    have Hrow1 := Lib.hid (Hrow.out.keep (w' := w1) hbel'.size (fun b _ hlt => hbel'.block b hlt) (fun _ hb _ => hb))
    have HG1 := Lib.hid ((Grew.refl ob ov W).then hbel')
    have hB1 : Below B W w1 := hbel'.mono (Nat.le_trans hBM hM)
    have Hk1 := Lib.hid (Hk.out.keep hB1 (Nat.le_refl _)); have Hc1 := Lib.hid (KidsC.keep hB1 (Nat.le_refl _) ks css Hc.out)
    have hM1 : M ≤ w1.heap.size := Nat.le_trans hM hbel'.size
    have hN1 : W.heap.size < w1.heap.size := HA1.out.facts.2.2.2.2.2
    have hnN : ov.ownBlock ≠ some W.heap.size := Hbx.out.notOwn (.inr (Nat.le_refl _))
    obtain ⟨y1, y2, y3, y4, m1, m2, m3⟩ := Hbx1.out.cells
    clear hbel hbel' HW Hb0 HA0 Hbx Hrow Hk Hc hB1 e1 l1 l2 l3
    go_upto_if 11 with fail
    go_cut [] (fun wx => ∃ l1 ov1 cs1, l1 = (l ++ if b = true then [p] else []) ∧ BoxesAt wx tb ob eb cb caps M l1 ov1 cs1 ∧ Grew ob ov ov1 w1 wx)
    case first =>
      cases b with
      | false =>
        go_wp2_with fail
        go_meet
        case rel => exact ⟨l, ov, cs, by simp, Hbx1.out, Grew.refl _ _ _⟩
      | true =>
        go_wp2_with fail
        go_region_law (first
          | (refine step_call rfl 45 _ _ rfl cln_int_ent [Value.slice pa p.length pc] ?_ _ (clone_int w1.heap.size p.length pa pc _ _ (Hrow1.out.row.keep ?_ (Nat.le_refl _)) ?_ (by omega)) ?_
             · go_simp
             · exact (Below.refl _ _).drew
             · exact Nat.le_refl _
             rintro e w2 ⟨v2, rfl, hown, hbel⟩
             obtain ⟨qa, qc, rfl, hq⟩ := rowq_own hown (ints_one .i64 p)
             refine ⟨_, rfl, ?_⟩
             have Hbel2 := Lib.hid (((Below.refl w1.heap.size w1).drew).trans hbel)
             have Hq := Lib.hid hq
             obtain ⟨z1, z2, z3, z4, n1, n2, n3⟩ := (Hbx1.out.below Hbel2.out).cells
             have Hown2 := Lib.hid (Hbx1.out.below Hbel2.out).own
             clear hbel hown hq)
          | (refine step_app2 rfl _ _ 33 rfl M 35 (.slice none 0 0) 1 24 Tryd.underlying33 info_slc rfl (by decide) ov l.length cs ?_ (Hown2.out.alloc _) ⟨w2.heap.size, 0, none⟩ 1 1 (w2.heap.size + 1) [.slice qa p.length qc] ?_ (row_one _ _ _ _ rfl (by omega)) ?_ ?_ ?_ ?_
             · go_simp
             · go_simp
             · unfold maxLen; omega
             · omega
             · have := Hbel2.out.size; simp; omega
             intro v' w3 hown' hgrow hwhere
             obtain ⟨va, vc, rfl, -⟩ := row_of_own hown' (by intro u hu; rcases List.mem_append.1 hu with h | h; exact Hbx1.out.rows.one u h; simp at h; subst h; rfl)
             have Hpu := Lib.hid (Hbx1.out.push hM1 Hbel2.out Hq.out hgrow hown' hwhere)
             have ho3 : w3.heap[ob]? = some (Obj.cells #[ov] 33 (0, 0)) := by
               rw [hgrow.block ob (by simp; omega) (fun e => Hbx1.out.notOwn (.inl Hbx1.out.lt.2.1) e.symm), Lib.alloc_old _ _ _ n2]
               exact (Hbx1.out.below Hbel2.out).o
             have q3 : w3.cell? ⟨ob, 0, none⟩ = some ov := by rw [Lib.cell_of_heap ho3]; rfl
             have q4 : w3.frozen? ⟨ob, 0, none⟩ = false := Lib.frozen_of_heap ho3 _
             have q5 : ob < w3.heap.size := (Array.getElem?_eq_some_iff.1 ho3).1
             clear hown' hgrow hwhere ho3))
        all_goals
          go_wp2_with fail
          go_meet
          case rel => exact ⟨_, _, _, by simp, Hpu.out.1, Hpu.out.2⟩
    case rest =>
      obtain ⟨l1, ov1, cs1, rfl, hbx, hgr⟩ := hcut
      have HG2 := Lib.hid (HG1.out.trans hgr)
      have HA2 := Lib.hid (show NodeAt wc W.heap.size _ _ _ _ by unfold NodeAt; rw [hgr.block _ hN1 (by have := Hbx1.out.lt.2.1; omega) hnN]; exact HA1.out)
      have Hrow2 := Lib.hid (Hrow1.out.stay (hgr.stay Hbx1.out.lt.2.1))
      have hB2 : Below B w1 wc := hgr.below hBo (by omega) (fun k hk => by have := (Hbx1.out.own.lt k hk).1; omega)
      have Hk2 := Lib.hid (Hk1.out.keep hB2 (Nat.le_refl _)); have Hc2 := Lib.hid (KidsC.keep hB2 (Nat.le_refl _) ks css Hc1.out)
      have hnN2 : ov1.ownBlock ≠ some W.heap.size := by
        rcases hgr.where_ with h | h
        · rw [h]; exact hnN
        · intro e; have := h _ e; omega
      have Hbx2 := Lib.hid hbx
      have hM2 : M ≤ wc.heap.size := Nat.le_trans hM1 hgr.size
      have hl2 : (l ++ if b = true then [p] else []).length + wtAll ks ≤ 1000000000 := by rw [List.length_append]; split <;> simp <;> omega
      obtain ⟨z0, z1, z2, z3, -, zl⟩ := HA2.out.facts
      generalize (l ++ if b = true then [p] else []) = l1 at HR hl2 Hbx2
      clear hbx hgr hB2 HG1 HA1 Hrow1 Hk1 Hc1 Hbx1 y1 y2 y3 y4 m1 m2 m3 hnN
      go_wp2_with fail
      go_loopg [20] ks.length (fun g i wr => ∃ (k : Nat) (l2 : List (List Int)) (ov2 : Value) (cs2 : List Value), i = .int .i64 k ∧ k + g = ks.length ∧ l2 ++ pathsK want (ks.drop k) k p = R ∧ l2.length + wtAll (ks.drop k) ≤ 1000000000 ∧ BoxesAt wr tb ob eb cb caps M l2 ov2 cs2 ∧ Grew ob ov1 ov2 wc wr)
      case atStart => exact ⟨0, l1, ov1, cs1, rfl, by omega, HR.out, hl2, Hbx2.out, Grew.refl _ _ _⟩
      case round =>
        obtain ⟨k, l2, ov2, cs2, rfl, hg, hke, hl3, hbx, hgr⟩ := hrel
        have Hke := Lib.hid hke
        have hB3 : Below B wc wr := hgr.below hBo (by omega) (fun k hk => by have := (Hbx2.out.own.lt k hk).1; omega)
        have hk3 := Hk2.out.keep hB3 (Nat.le_refl _); have hc3 := KidsC.keep hB3 (Nat.le_refl _) ks css Hc2.out
        have hM3 : M ≤ wr.heap.size := Nat.le_trans hM2 hgr.size
        have Hrow3 := Lib.hid (Hrow2.out.stay (hgr.stay Hbx2.out.lt.2.1))
        have HG3 := Lib.hid hgr; have Hbx3 := Lib.hid hbx
        clear hke hgr hB3
        by_cases hlt : k < ks.length
        · have hlti : (k : Int) < ks.length := by omega
          have hmem := Hw3.out _ (List.getElem_mem hlt)
          have hdr : wtAll (ks.drop k) = ks[k].wt + wtAll (ks.drop (k + 1)) := by
            conv => lhs; rw [List.drop_eq_getElem_cons hlt]
            simp only [wtAll]
          rw [hdr] at hl3
          have Hst : Hid ((l2 ++ pathsW want ks[k] (p ++ [(k : Int)])) ++ pathsK want (ks.drop (k + 1)) (k + 1) p = R) := by
            show _ = R
            rw [List.append_assoc, ← pathsK_step hlt]; exact Hke.out
          have hpwl := pathsW_len want ks[k] (p ++ [(k : Int)])
          obtain ⟨kb, ko, lk, a1, n1, c1, a2, n2, c2, a3, n3, c3, rfl, hkb, hkn, g0, g1, g2, g3⟩ := hk3.kid_at hc3 k hlt
          generalize ks[k] = q at hmem Hst hpwl hl3 hkn
          go_upto_region 6 with fail
          have hb2 := (Below.refl wr.heap.size wr).alloc (Nat.le_refl _) (Obj.cells #[.bool lk, .slice a1 n1 c1, .slice a2 n2 c2, .slice a3 n3 c3] 26)
          have hA2 := NodeAt.fresh wr (.bool lk) (.slice a1 n1 c1) (.slice a2 n2 c2) (.slice a3 n3 c3)
          obtain ⟨w2, hw2⟩ : ∃ w2, w2 = wr.alloc (Obj.cells #[.bool lk, .slice a1 n1 c1, .slice a2 n2 c2, .slice a3 n3 c3] 26) := ⟨_, rfl⟩
          rw [← hw2] at hb2 hA2 ⊢
          clear hw2
          have Hbx4 := Lib.hid (Hbx3.out.below hb2)
          have Hrow4 := Lib.hid (Hrow3.out.keep (w' := w2) (ok' := fun b => M ≤ b ∧ ov2.ownBlock ≠ some b) hb2.size (fun b _ hlt => hb2.block b hlt) (fun _ hb _ => hb))
          have Hkn := Lib.hid (NodeC.keep (hb2.mono (Nat.le_trans hBM hM3)) (Nat.le_refl _) _ _ hkn)
          have hM4 : M ≤ w2.heap.size := Nat.le_trans hM3 hb2.size
          have hle : p.length ≤ pc := Hrow3.out.le
          obtain ⟨x0, x1, x2, x3, -, xl⟩ := hA2.facts
          obtain ⟨y1, y2, y3, y4, m1, m2, m3⟩ := Hbx4.out.cells
          have Hb2 := Lib.hid hb2; have HA4 := Lib.hid hA2
          clear hb2 hA2 hkn hk3 hc3 g0 g1 g2 g3 Hrow3 Hw3 Hke hdr
          go_region_law (first
            | (refine step_grow rfl _ _ 35 rfl 3 (.int .i64 0) 1 8 Tryd.underlying35 info_int rfl (by decide) pa p.length w2.heap.size (p.map (Value.int .i64)) ?_ (Hrow4.out.row.full.keep ?_ (Nat.le_refl _)) ⟨w2.heap.size, 0, none⟩ 1 1 (w2.heap.size + 1) [.int .i64 k] ?_ ((row_one w2 _ _ _ rfl (by omega)).keep (Below.refl _ _).drew (Nat.le_refl _)) (by decide) ?_ ?_ ?_
               · go_simp
               · exact ((Below.refl _ _).alloc (Nat.le_refl _) _).drew
               · go_simp
               · unfold maxLen; omega
               · omega
               intro v' w3 hown hbel
               have hz : p.map (Value.int .i64) ++ [.int .i64 (k : Int)] = (p ++ [(k : Int)]).map (Value.int .i64) := by simp
               rw [hz] at hown
               obtain ⟨va, vc, rfl, hq⟩ := rowq_own hown (ints_one .i64 _)
               have hb3 : Below w2.heap.size w2 w3 := (((Below.refl _ _).alloc (Nat.le_refl _) _).drew).trans (hbel.mono (by simp))
               have hA3 := HA4.out.keep (hb3.mono (by omega))
               have hbx5 := Hbx4.out.below hb3
               have hq2 : RowQ w3 (fun b => M ≤ b ∧ ov2.ownBlock ≠ some b) 1 va (p ++ [(k : Int)]).length vc ((p ++ [(k : Int)]).map (Value.int .i64)) := by
                 have := hq.keep (ok' := fun b => M ≤ b ∧ ov2.ownBlock ≠ some b) (Nat.le_refl _) (fun _ _ _ => rfl) (fun b hb _ => by
                   have hb' : w2.heap.size + 1 ≤ b := by simpa using hb
                   exact ⟨by omega, Hbx4.out.notOwn (.inr (by omega))⟩)
                 simpa using this
               have HC := IH.out q (.agg #[.bool lk, .slice a1 n1 c1, .slice a2 n2 c2, .slice a3 n3 c3]) (p ++ [(k : Int)]) va vc l2 ov2 cs2 w3 hmem.1 hmem.2.1 (by omega) (by simp; omega) ⟨_, rfl, NodeC.keep (hb3.mono (by omega)) (Nat.le_refl _) _ _ Hkn.out⟩ (Nat.le_trans hM4 hb3.size) hbx5 hq2
               have HC2 := Lib.hid (show Calls Tryd.prog 44 (([.agg #[.bool lk, .slice a1 n1 c1, .slice a2 n2 c2, .slice a3 n3 c3], .slice va (p.length + 1) vc] : List Value).toArray ++ #[.pointer (some ⟨tb, 0, none⟩), .pointer (some ⟨ob, 0, none⟩), .pointer (some ⟨eb, 0, none⟩)]) w3 (PathsP tb ob eb cb caps M ov2 w3 (l2 ++ pathsW want q (p ++ [(k : Int)]))) by simpa using HC)
               have HG5 := Lib.hid ((HG3.out.then Hb2.out).then hb3)
               obtain ⟨t0, t1, t2, t3, -, tl⟩ := hA3.facts
               obtain ⟨r1, r2, r3, r4, s1, s2, s3⟩ := hbx5.cells
               clear hown hbel hz hq hb3 hA3 hbx5 hq2 HC)
            | (refine step_callv rfl 44 _ #[.pointer (some ⟨tb, 0, none⟩), .pointer (some ⟨ob, 0, none⟩), .pointer (some ⟨eb, 0, none⟩)] _ _ rfl ?_ paths1_ent [.agg #[.bool lk, .slice a1 n1 c1, .slice a2 n2 c2, .slice a3 n3 c3], .slice va (p.length + 1) vc] ?_ _ HC2.out ?_
               · go_simp
               · go_simp
               rintro e w4 ⟨rfl, ov3, cs3, hbx6, hgr6⟩
               refine ⟨_, rfl, ?_⟩
               have Hbx6 := Lib.hid hbx6
               have HG6 := Lib.hid (HG5.out.trans hgr6)
               clear hbx6 hgr6))
          all_goals
            go_wp2_with fail
            go_roundg (gk - 1)
            case measure => omega
            case rel => exact ⟨k + 1, _, ov3, cs3, by go_num, by omega, Hst.out, by rw [List.length_append]; omega, Hbx6.out, HG6.out⟩
        · obtain rfl : k = ks.length := by omega
          have HR2 : Hid (l2 = R) := by
            show l2 = R
            rw [← Hke.out, List.drop_length, pathsK, List.append_nil]
          clear Hke hk3 hc3
          go_wp2_with fail
          go_end0
          refine ⟨rfl, ov2, cs2, ?_, HG2.out.trans HG3.out⟩
          rw [← HR2.out]
          exact Hbx3.out
end

end Go.Proofs.YtmhgbocejjnoaaaDoor
/- Walks: tree's paths, Paths. -/
namespace Go.Proofs.YtmhgbocejjnoaaaDoor
open Go.RowKit Go.Redl
set_option linter.unusedVariables false

/-- A list of paths, made by the call. -/
def ListP (W : World) (L : List (List Int)) (e : Ending) (w' : World) : Prop :=
  ∃ a c cs, e = .returned (.slice a L.length c) ∧ RowQ w' (fun b => W.heap.size ≤ b) 1 a L.length c cs ∧ PathsQ w' (fun b => W.heap.size ≤ b) L cs ∧ Below W.heap.size W w'

set_option maxRecDepth 100000 in
set_option maxHeartbeats 2000000 in
theorem paths_c {cb MX : Nat} {caps : Array Value} {want : NodeD → Bool} (hcb : ∀ args w, (callFunc cb args).run Tryd.prog w = .ok (.enter cb args) w) (n : NodeD) (v : Value) (W : World) (hA : WantC W.heap.size cb caps want MX) (hMX : n.wt ≤ MX) (hw : n.wt ≤ 100000000) (hv : NodeV W W.heap.size n v) :
    Calls Tryd.prog 23 #[v, .func (.func cb) #[] caps] W (ListP W (pathsW want n [])) := by
  have hv0 := hv
  obtain ⟨lf, ps, t, ks⟩ := n
  obtain ⟨ap, cp, at_, ct, ak, ck, css, rfl, -, -, -, -⟩ := hv0.open
  generalize NodeD.mk lf ps t ks = n at hv hMX hw ⊢
  obtain ⟨tb, htb⟩ : ∃ tb, tb = W.heap.size + 1 := ⟨_, rfl⟩
  obtain ⟨ob, hob⟩ : ∃ ob, ob = tb + 1 := ⟨_, rfl⟩
  obtain ⟨eb, heb⟩ : ∃ eb, eb = ob + 1 := ⟨_, rfl⟩
  obtain ⟨w0, hw0⟩ : ∃ w0, w0 = (((W.alloc (Obj.cells #[.bool lf, .slice ap ps.length cp, .slice at_ t.length ct, .slice ak ks.length ck] 26)).alloc (Obj.cells #[.func (.func cb) #[] caps] 32)).alloc (Obj.cells #[.slice none 0 0] 33)).alloc (Obj.cells #[.nilFunc] 80) := ⟨_, rfl⟩
  have hb0 : Below W.heap.size W w0 := by
    rw [hw0]
    exact ((((Below.refl _ _).alloc (Nat.le_refl _) _).alloc (by simp) _).alloc (by simp; omega) _).alloc (by simp; omega) _
  have hs0 : w0.heap.size = W.heap.size + 4 := by rw [hw0]; simp
  have h0 : NodeAt w0 W.heap.size (.bool lf) (.slice ap ps.length cp) (.slice at_ t.length ct) (.slice ak ks.length ck) := by
    rw [hw0]
    exact (((NodeAt.fresh W _ _ _ _).alloc _).alloc _).alloc _
  have ht : w0.heap[tb]? = some (Obj.cells #[.func (.func cb) #[] caps] 32 (0, 0)) := by
    rw [hw0, Lib.alloc_old _ _ _ (by simp; omega), Lib.alloc_old _ _ _ (by simp; omega), htb]
    simpa using heap_alloc_new (W.alloc (Obj.cells #[.bool lf, .slice ap ps.length cp, .slice at_ t.length ct, .slice ak ks.length ck] 26)) (Obj.cells #[.func (.func cb) #[] caps] 32)
  have ho : w0.heap[ob]? = some (Obj.cells #[.slice none 0 0] 33 (0, 0)) := by
    rw [hw0, Lib.alloc_old _ _ _ (by simp; omega), hob, htb]
    simpa using heap_alloc_new ((W.alloc (Obj.cells #[.bool lf, .slice ap ps.length cp, .slice at_ t.length ct, .slice ak ks.length ck] 26)).alloc (Obj.cells #[.func (.func cb) #[] caps] 32)) (Obj.cells #[.slice none 0 0] 33)
  have he : w0.heap[eb]? = some (Obj.cells #[.nilFunc] 80 (0, 0)) := by
    rw [hw0, heb, hob, htb]
    simpa using heap_alloc_new (((W.alloc (Obj.cells #[.bool lf, .slice ap ps.length cp, .slice at_ t.length ct, .slice ak ks.length ck] 26)).alloc (Obj.cells #[.func (.func cb) #[] caps] 32)).alloc (Obj.cells #[.slice none 0 0] 33)) (Obj.cells #[.nilFunc] 80)
  have c0 : w0.cell? ⟨eb, 0, none⟩ = some .nilFunc := by rw [cell_of_row _ _ _ _ _ _ he]; rfl
  have c1 : w0.frozen? ⟨eb, 0, none⟩ = false := Lib.frozen_of_heap he _
  obtain ⟨w1, hw1⟩ : ∃ w1, w1 = w0.setCell ⟨eb, 0, none⟩ (.func (.func 44) #[] #[.pointer (some ⟨tb, 0, none⟩), .pointer (some ⟨ob, 0, none⟩), .pointer (some ⟨eb, 0, none⟩)]) := ⟨_, rfl⟩
  have hs1 : w1.heap.size = W.heap.size + 4 := by rw [hw1, ← hs0]; simp [World.setCell]
  have hb1 : Below W.heap.size W w1 := by rw [hw1]; exact hb0.setCell (p := ⟨eb, 0, none⟩) (by show W.heap.size ≤ eb; omega) _
  have h1 : NodeAt w1 W.heap.size (.bool lf) (.slice ap ps.length cp) (.slice at_ t.length ct) (.slice ak ks.length ck) := by rw [hw1]; exact h0.set (by omega)
  have hbx : BoxesAt w1 tb ob eb cb caps (W.heap.size + 4) [] (.slice none 0 0) [] := by
    refine ⟨?_, ?_, ?_, World.ownsRow_nil _ _ _ _, rfl, by omega⟩
    · rw [hw1, Below.heap_setCell _ _ _ _ (by show tb ≠ eb; omega)]; exact ht
    · rw [hw1]; exact Lib.heap_setCell_same (i := 0) he _
    · rw [hw1, Below.heap_setCell _ _ _ _ (by show ob ≠ eb; omega)]; exact ho
  have HC := Lib.hid (paths1_c hcb hA (ob := ob) (M := W.heap.size + 4) (by omega) (by omega) n.wt n (.agg #[.bool lf, .slice ap ps.length cp, .slice at_ t.length ct, .slice ak ks.length ck]) [] none 0 [] (.slice none 0 0) [] w1 (Nat.le_refl _) hMX (by simp; omega) (by simp; omega) (hv.keep hb1 (Nat.le_refl _)) (by omega) hbx (RowQ.empty _ _ _))
  obtain ⟨x0, x1, x2, x3, -, xl⟩ := h1.facts
  obtain ⟨y1, y2, y3, y4, m1, m2, m3⟩ := hbx.cells
  have Hb0 := Lib.hid hb1
  have Hbx := Lib.hid hbx
  have hmf : ∀ (fn : Fn) (first cap : Array Value) (w : World), (Instr.makeFunc fn first cap).run Tryd.prog w = .ok (.func fn first cap) w := fun _ _ _ _ => rfl
  have hst := fun (W : World) (a : Addr) (fn : Fn) (first cap : Array Value) (m : Mode) => run_store Tryd.prog W a (.func fn first cap) m rfl
  clear hb0 h0 hb1 h1 hbx hv hv0 hA hMX hw ht ho he
  have H1 := Lib.hid htb; have H2 := Lib.hid hob; have H3 := Lib.hid heb; have H4 := Lib.hid hw0; have H5 := Lib.hid hw1
  have hlt : W.heap.size < tb ∧ tb < ob ∧ ob < eb := by omega
  have hcl : W.heap.size ≤ ob := by omega
  clear htb hob heb hw0 hw1 hs0
  go_enter Tryd.func23, Tryd.ntmps23
  go_upto_region 3 with fail
  rw [← H4.out, ← H1.out, ← H2.out, ← H3.out]
  clear H1 H2 H3 H4
  go_upto_region 4 with fail
  rw [← H5.out]
  clear H5 c0 c1
  go_wp2_with fail
  refine HC.out.mono ?_
  rintro e w1 ⟨rfl, ov, cs, hbx1, hgr⟩
  have Hown := Lib.hid hbx1.own; have Hrows := Lib.hid hbx1.rows
  obtain ⟨a, c, rfl, hq⟩ := rowq_own hbx1.own hbx1.rows.one
  have Hq := Lib.hid hq
  obtain ⟨z1, z2, z3, z4, n1, n2, n3⟩ := hbx1.cells
  have Hb1 := Lib.hid (Hb0.out.trans (hgr.below (B := W.heap.size) hcl (by omega) (by simp [Value.ownBlock])))
  clear hbx1 hgr hq HC x0 x1 x2 x3 y1 y2 y3 y4 Hbx hcb
  go_wp2_with fail
  go_ret
  simp only [List.nil_append] at Hq Hrows ⊢
  exact ⟨a, c, cs, rfl, Hq.out.keep (Nat.le_refl _) (fun _ _ _ => rfl) (fun b hb _ => by omega), Hrows.out.keep (Nat.le_refl _) (fun _ _ _ => rfl) (fun b hb _ => by have := hb.1; omega), Hb1.out⟩

theorem all1_ent : ∀ args w, (callFunc 24 args).run Tryd.prog w = .ok (.enter 24 args) w := by intro args w; kernel_rfl
set_option maxRecDepth 100000 in
theorem all_want (B M : Nat) : WantC B 24 #[] (fun _ => true) M := by
  intro n v W hM hv hB
  obtain ⟨lf, ps, t, ks⟩ := n
  obtain ⟨ap, cp, at_, ct, ak, ck, css, rfl, -, -, -, -⟩ := hv.open
  have hb0 := (Below.refl W.heap.size W).alloc (Nat.le_refl _) (Obj.cells #[.bool lf, .slice ap ps.length cp, .slice at_ t.length ct, .slice ak ks.length ck] 26)
  clear hv hM
  show Calls Tryd.prog 24 #[.agg #[.bool lf, .slice ap ps.length cp, .slice at_ t.length ct, .slice ak ks.length ck]] W _
  go_enter Tryd.func24, Tryd.ntmps24
  go_wp2_with fail
  go_ret
  exact ⟨rfl, hb0⟩

set_option maxRecDepth 100000 in
set_option maxHeartbeats 1000000 in
/-- All paths of a tree. -/
theorem all_c (n : NodeD) (v : Value) (W : World) (hw : n.wt ≤ 100000000) (hv : NodeV W W.heap.size n v) :
    Calls Tryd.prog 10 #[v] W (ListP W (pathsW (fun _ => true) n [])) := by
  have hv0 := hv
  obtain ⟨lf, ps, t, ks⟩ := n
  obtain ⟨ap, cp, at_, ct, ak, ck, css, rfl, -, -, -, -⟩ := hv0.open
  generalize NodeD.mk lf ps t ks = n at hv hw ⊢
  have hb0 := (Below.refl W.heap.size W).alloc (Nat.le_refl _) (Obj.cells #[.bool lf, .slice ap ps.length cp, .slice at_ t.length ct, .slice ak ks.length ck] 26)
  have HC := Lib.hid (paths_c all1_ent n _ _ (all_want _ n.wt) (Nat.le_refl _) hw (hv.keep hb0 hb0.size))
  have Hb0 := Lib.hid hb0
  clear hb0 hv hv0 hw
  go_enter Tryd.func10, Tryd.ntmps10
  go_wp2_with fail
  refine HC.out.mono ?_
  rintro e w1 ⟨a, c, cs, rfl, hq, hp, hb⟩
  have Hq := Lib.hid hq; have Hp := Lib.hid hp; have Hb := Lib.hid (Hb0.out.trans (hb.mono Hb0.out.size))
  have hs := Hb0.out.size
  clear hq hp hb HC
  go_wp2_with fail
  go_ret
  exact ⟨a, c, cs, rfl, Hq.out.keep (Nat.le_refl _) (fun _ _ _ => rfl) (fun b hb _ => Nat.le_trans hs hb), Hp.out.keep (Nat.le_refl _) (fun _ _ _ => rfl) (fun b hb _ => Nat.le_trans hs hb), Hb.out⟩

end Go.Proofs.YtmhgbocejjnoaaaDoor
