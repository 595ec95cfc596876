/- Operations, as far as a repair tells them: how they lie in memory. No program in sight. -/
import Derived.Test.YtiinmgccjlmoaaaRHA
import Derived.Test.YtiinmgccjlmoaaaRCT
namespace Go.Redl
open Go.RowKit
set_option linter.unusedVariables false

/-- A reading below a block, as one whose blocks lie there. -/
theorem RowA.q {w : World} {B sz n cap : Nat} {a : Option Addr} {cs : List Value} (h : RowA w B sz a n cap cs) (hB : B ≤ w.heap.size) : RowQ w (fun b => b < B) sz a n cap cs :=
  ⟨h.len, h.le, h.max, h.one, h.nil, fun hne => by
    obtain ⟨b, off, ha, hb, hc⟩ := h.some_ hne
    exact ⟨b, off, ha, hb, Nat.lt_of_lt_of_le hb hB, hc⟩⟩
mutual
theorem NodeC.q {w : World} {B : Nat} (hB : B ≤ w.heap.size) : ∀ (n : NodeD) (cs : List Value), NodeC w B n cs → NodeQ w (fun b => b < B) n cs
  | .mk l ps t ks, cs => by
    intro h
    unfold NodeC at h
    unfold NodeQ
    obtain ⟨ap, cp, at_, ct, ak, ck, css, h1, h2, h3, h4, h5, h6⟩ := h
    exact ⟨ap, cp, at_, ct, ak, ck, css, h1, h2.q hB, h3.q hB, h4, h5.q hB, KidsC.q hB ks css h6⟩
theorem KidsC.q {w : World} {B : Nat} (hB : B ≤ w.heap.size) : ∀ (ks : List NodeD) (css : List Value), KidsC w B ks css → KidsQ w (fun b => b < B) ks css
  | [], css => by intro h; unfold KidsC at h; unfold KidsQ; exact h
  | k :: ks, css => by
    intro h
    unfold KidsC at h
    unfold KidsQ
    obtain ⟨c1, c2, h1, h2, h3⟩ := h
    exact ⟨c1, c2, h1, NodeC.q hB k c1 h2, KidsC.q hB ks c2 h3⟩
end
theorem zero_q (w : World) (ok : Nat → Prop) : NodeQ w ok (.mk false [] [] []) [.bool false, .slice none 0 0, .slice none 0 0, .slice none 0 0] := by
  unfold NodeQ
  exact ⟨none, 0, none, 0, none, 0, [], rfl, RowQ.empty _ _ _, RowQ.empty _ _ _, by simp, RowQ.empty _ _ _, by unfold KidsQ; rfl⟩

end Go.Redl
namespace Go.Proofs.Ytiinmgccjlmoaaa
open Go.RowKit Go.Redl
set_option linter.unusedVariables false

/-- A path's reading. -/
abbrev PathQ (w : World) (ok : Nat → Prop) (a : Option Addr) (c : Nat) (p : List Int) : Prop := RowQ w ok 1 a p.length c (p.map (Value.int .i64))
/-- The twenty-one cells of an operation. -/
def opCells (o : OpD) (pa : Option Addr) (pc : Nat) (ta : Option Addr) (tc : Nat) (n0 n1 n2 n3 : Value) (oa : Option Addr) (oc : Nat) : List Value :=
  [.int .i64 o.kind, .slice pa o.path.length pc, .slice ta o.dest.length tc, .int .i64 o.pos, n0, n1, n2, n3, .slice oa o.old.length oc, .slice none 0 0, .slice none 0 0,
    .bool false, .slice none 0 0, .int .i64 0, .slice none 0 0, .int .i64 0, .bool false, .slice none 0 0, .int .i64 0, .slice none 0 0, .int .i64 0]
def OpQ (w : World) (ok : Nat → Prop) (o : OpD) (cs : List Value) : Prop :=
  ∃ pa pc ta tc n0 n1 n2 n3 oa oc, cs = opCells o pa pc ta tc n0 n1 n2 n3 oa oc ∧ PathQ w ok pa pc o.path ∧ PathQ w ok ta tc o.dest ∧ NodeQ w ok o.node [n0, n1, n2, n3] ∧ RowQ w ok 2 oa o.old.length oc (propCells o.old)
def OpsQ (w : World) (ok : Nat → Prop) : List OpD → List Value → Prop
  | [], css => css = []
  | o :: os, css => ∃ c1 c2, css = c1 ++ c2 ∧ OpQ w ok o c1 ∧ OpsQ w ok os c2
theorem OpQ.stay {w w' : World} {ok ok' : Nat → Prop} {o : OpD} {cs : List Value} (h : OpQ w ok o cs) (s : Stay w w' ok ok') : OpQ w' ok' o cs := by
  obtain ⟨pa, pc, ta, tc, n0, n1, n2, n3, oa, oc, rfl, h1, h2, h3, h4⟩ := h
  exact ⟨pa, pc, ta, tc, n0, n1, n2, n3, oa, oc, rfl, h1.stay s, h2.stay s, h3.stay s, h4.stay s⟩
theorem OpsQ.stay {w w' : World} {ok ok' : Nat → Prop} (s : Stay w w' ok ok') : ∀ {os : List OpD} {css : List Value}, OpsQ w ok os css → OpsQ w' ok' os css
  | [], css, h => by unfold OpsQ at h ⊢; exact h
  | o :: os, css, h => by
    unfold OpsQ at h ⊢
    obtain ⟨c1, c2, h1, h2, h3⟩ := h
    exact ⟨c1, c2, h1, h2.stay s, OpsQ.stay s h3⟩
theorem OpQ.len {w : World} {ok : Nat → Prop} {o : OpD} {cs : List Value} (h : OpQ w ok o cs) : cs.length = 21 := by
  obtain ⟨pa, pc, ta, tc, n0, n1, n2, n3, oa, oc, rfl, -⟩ := h; rfl
theorem OpQ.one {w : World} {ok : Nat → Prop} {o : OpD} {cs : List Value} (h : OpQ w ok o cs) : ∀ u ∈ cs, u.oneCell' = true := by
  obtain ⟨pa, pc, ta, tc, n0, n1, n2, n3, oa, oc, rfl, -, -, h3, -⟩ := h
  have hn := (NodeQ.node _ _ h3).one
  simp at hn
  obtain ⟨g0, g1, g2, g3⟩ := hn
  intro u hu
  simp only [opCells, List.mem_cons, List.not_mem_nil, or_false] at hu
  rcases hu with h | h | h | h | h | h | h | h | h | h | h | h | h | h | h | h | h | h | h | h | h
  all_goals
    subst h
    first | rfl | assumption
theorem OpsQ.len {w : World} {ok : Nat → Prop} : ∀ {os : List OpD} {css : List Value}, OpsQ w ok os css → css.length = os.length * 21
  | [], css, h => by unfold OpsQ at h; subst h; rfl
  | o :: os, css, h => by
    unfold OpsQ at h
    obtain ⟨c1, c2, rfl, h2, h3⟩ := h
    have a := h2.len; have b := OpsQ.len h3
    simp only [List.length_append, List.length_cons]; omega
theorem OpsQ.one {w : World} {ok : Nat → Prop} : ∀ {os : List OpD} {css : List Value}, OpsQ w ok os css → ∀ u ∈ css, u.oneCell' = true
  | [], css, h => by unfold OpsQ at h; subst h; simp
  | o :: os, css, h => by
    unfold OpsQ at h
    obtain ⟨c1, c2, rfl, h2, h3⟩ := h
    intro u hu
    rcases List.mem_append.1 hu with hu | hu
    · exact h2.one u hu
    · exact OpsQ.one h3 u hu
theorem OpsQ.nil (w : World) (ok : Nat → Prop) : OpsQ w ok [] [] := by unfold OpsQ; rfl
theorem OpsQ.single {w : World} {ok : Nat → Prop} {o : OpD} {c : List Value} (h : OpQ w ok o c) : OpsQ w ok [o] c := by
  unfold OpsQ; exact ⟨c, [], by simp, h, OpsQ.nil _ _⟩
theorem OpsQ.append {w : World} {ok : Nat → Prop} : ∀ {os os' : List OpD} {css css' : List Value}, OpsQ w ok os css → OpsQ w ok os' css' → OpsQ w ok (os ++ os') (css ++ css')
  | [], os', css, css', h, h' => by unfold OpsQ at h; subst h; exact h'
  | o :: os, os', css, css', h, h' => by
    unfold OpsQ at h
    obtain ⟨c1, c2, rfl, h2, h3⟩ := h
    rw [List.cons_append]
    unfold OpsQ
    exact ⟨c1, c2 ++ css', by simp, h2, OpsQ.append h3 h'⟩
/-- One operation's cells. -/
theorem OpsQ.at_ {w : World} {ok : Nat → Prop} : ∀ {os : List OpD} {css : List Value}, OpsQ w ok os css → ∀ (i : Nat) (hi : i < os.length), ∃ c, OpQ w ok os[i] c ∧ ∀ j, j < 21 → css[i * 21 + j]? = c[j]?
  | [], css, h, i, hi => absurd hi (by simp)
  | k :: ks, css, h, 0, hi => by
    unfold OpsQ at h
    obtain ⟨c1, c2, rfl, h2, h3⟩ := h
    refine ⟨c1, h2, fun j hj => ?_⟩
    rw [Nat.zero_mul, Nat.zero_add, List.getElem?_append_left (by rw [h2.len]; exact hj)]
  | k :: ks, css, h, i + 1, hi => by
    unfold OpsQ at h
    obtain ⟨c1, c2, rfl, h2, h3⟩ := h
    obtain ⟨c, hc, hall⟩ := OpsQ.at_ h3 i (by simpa using hi)
    refine ⟨c, by simpa using hc, fun j hj => ?_⟩
    rw [List.getElem?_append_right (by rw [h2.len]; omega), ← hall j hj, h2.len]
    congr 1; omega
/-- A list of operations, as a value. -/
def OpsV (w : World) (l : List OpD) (v : Value) : Prop := ∃ a c css, v = .slice a l.length c ∧ RowA w w.heap.size 21 a l.length c css ∧ OpsQ w (fun _ => True) l css
theorem stay_below {w w' : World} (hb : Below w.heap.size w w') (ok : Nat → Prop) : Stay w w' ok ok := ⟨hb.size, fun b _ hlt => hb.block b hlt, fun _ h _ => h⟩
theorem OpsV.keep {w w' : World} {l : List OpD} {v : Value} (h : OpsV w l v) (hb : Below w.heap.size w w') : OpsV w' l v := by
  obtain ⟨a, c, css, rfl, h1, h2⟩ := h
  exact ⟨a, c, css, rfl, h1.keep hb hb.size, h2.stay (stay_below hb _)⟩
theorem OpsV.nil (w : World) : OpsV w [] (.slice none 0 0) := ⟨none, 0, [], rfl, RowA.empty _ _ _, OpsQ.nil _ _⟩
/-- What an own row holds. -/
theorem OpsV.of_own {w : World} {base e : Nat} {l : List OpD} {v : Value} {css : List Value} {ok : Nat → Prop} (h : w.ownsRow base e 21 v l.length css) (hq : OpsQ w ok l css) : OpsV w l v := by
  obtain ⟨a, c, hv, hr⟩ := row_of_own h hq.one
  exact ⟨a, c, css, hv, hr, hq.stay ⟨Nat.le_refl _, fun _ _ _ => rfl, fun _ _ _ => trivial⟩⟩
/-- An operation in a list of them. -/
theorem OpsV.at_ {w : World} {l : List OpD} {a : Option Addr} {n c : Nat} (h : OpsV w l (.slice a n c)) (i : Nat) (hi : i < l.length) :
    ∃ b off pa pc ta tc n0 n1 n2 n3 oa oc, a = some ⟨b, off, none⟩ ∧ b < w.heap.size ∧ PathQ w (fun _ => True) pa pc l[i].path ∧ PathQ w (fun _ => True) ta tc l[i].dest ∧ NodeQ w (fun _ => True) l[i].node [n0, n1, n2, n3] ∧ RowQ w (fun _ => True) 2 oa l[i].old.length oc (propCells l[i].old) ∧
      ∀ j u, (opCells l[i] pa pc ta tc n0 n1 n2 n3 oa oc)[j]? = some u → w.cell? ⟨b, off + i * 21 + j, none⟩ = some u := by
  obtain ⟨a', c', css, hv, hr, hq⟩ := h
  injection hv with e1 e2 e3; subst e1; subst e2; subst e3
  obtain ⟨cs, hc, hall⟩ := hq.at_ i hi
  obtain ⟨pa, pc, ta, tc, n0, n1, n2, n3, oa, oc, rfl, h1, h2, h3, h4⟩ := hc
  obtain ⟨b, off, ha, hb, hcell⟩ := hr.some_ (by
    intro he
    have := hq.len
    rw [he] at this
    simp at this; omega)
  refine ⟨b, off, pa, pc, ta, tc, n0, n1, n2, n3, oa, oc, ha, hb, h1, h2, h3, h4, fun j u hj => ?_⟩
  have hj21 : j < 21 := by
    have := (List.getElem?_eq_some_iff.1 hj).1
    simpa [opCells] using this
  rw [Nat.add_assoc]
  exact hcell _ _ ((hall j hj21).trans hj)

end Go.Proofs.Ytiinmgccjlmoaaa
