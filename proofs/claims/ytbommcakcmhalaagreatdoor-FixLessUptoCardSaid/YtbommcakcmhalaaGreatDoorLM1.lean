/- Parts of the proof, one behind the other: RBase, RN1, RX1, RX2. -/
import Derived.WalkKit
import Derived.WalkSpells
import Derived.WalkLawsBesides
import Derived.Lib.Hide
import Derived.Laws.AppendOwnNone
import Derived.Lib.AppendZeros
import Derived.Lib.UnsafeStr
import Derived.Laws.BytesArg
import Derived.ChangeSlices
import Derived.ChangeArms
import Derived.Deep.Slices
/- Plain words for reading slices in memory, and small laws on them. No program in sight. -/
set_option linter.unusedVariables false
set_option linter.unusedSimpArgs false
namespace Go.Redl
open Go.RowKit
theorem getD_of_lt {α : Type} {l : List α} {k : Nat} {d : α} (h : k < l.length) : l.getD k d = l[k] := by simp [List.getD, List.getElem?_eq_getElem h]
theorem ret_bool {a b : Bool} (h : a = b) : Ending.returned (.bool a) = .returned (.bool b) := by rw [h]
theorem ret_int {k : IntKind} {a b : Int} (h : a = b) : Ending.returned (.int k a) = .returned (.int k b) := by rw [h]
/-- A slice (its address, length, capacity) with n elements of sz cells each; cs: its cells; what it leads to lies below block B. -/
structure RowA (w : World) (B sz : Nat) (a : Option Addr) (n cap : Nat) (cs : List Value) : Prop where
 len : cs.length = n * sz
 le : n <= cap
 max : cap <= maxLen
 one : ∀ u ∈ cs, u.oneCell' = true
 nil : a = none -> cap = 0
 some_ : cs ≠ [] -> ∃ b off, a = some ⟨b, off, none⟩ /\ b < B /\ ∀ j u, cs[j]? = some u -> w.cell? ⟨b, off + j, none⟩ = some u
theorem RowA.keep {w w' : World} {B B' sz n cap : Nat} {a : Option Addr} {cs : List Value} (h : RowA w B sz a n cap cs) (hb : Below B w w') (hB : B <= B') : RowA w' B' sz a n cap cs := by
 refine ⟨h.len, h.le, h.max, h.one, h.nil, fun hne => ?_⟩
 obtain ⟨b, off, ha, hlt, hcell⟩ := h.some_ hne
 exact ⟨b, off, ha, Nat.lt_of_lt_of_le hlt hB, fun j u hj => by rw [hb.cell (p := ⟨b, off + j, none⟩) hlt]; exact hcell j u hj⟩
theorem RowA.empty (w : World) (B sz : Nat) : RowA w B sz none 0 0 [] := ⟨by simp, Nat.le_refl _, Nat.zero_le _, by simp, fun _ => rfl, fun h => absurd rfl h⟩
theorem addr_add (b off j : Nat) : (⟨b, off, none⟩ : Addr).add j = ⟨b, off + j, none⟩ := by unfold Addr.add; split <;> simp_all
theorem RowA.cells {w : World} {B sz n cap : Nat} {ad : Addr} {cs : List Value} (h : RowA w B sz (some ad) n cap cs) : ∀ j u, cs[j]? = some u -> w.cell? (ad.add j) = some u := by
 intro j u hj
 obtain ⟨b, off, ha, _, hcell⟩ := h.some_ (by rintro rfl; simp at hj)
 cases ha
 rw [addr_add]; exact hcell j u hj
/-- A literal of one element, in a new block. -/
theorem row_one (w : World) (v : Value) (E B : Nat) (h1 : v.oneCell' = true) (hB : w.heap.size < B := by omega) : RowA (w.alloc (.cells #[v] E)) B 1 (some ⟨w.heap.size, 0, none⟩) 1 1 [v] := by
 refine ⟨by simp, Nat.le_refl _, by unfold maxLen; omega, by simp [h1], (fun h => by cases h), fun _ => ⟨w.heap.size, 0, rfl, hB, fun j u hj => ?_⟩⟩
 have hg : (w.alloc (.cells #[v] E)).heap[w.heap.size]? = some (.cells #[v] E (0, 0)) := heap_alloc_new w _
 rw [cell_of_row _ w.heap.size (0 + j) #[v] E (0, 0) hg]
 cases j with
 | zero => simpa using hj
 | succ j => simp at hj
/-- The call's own row, read as a slice. -/
theorem row_of_own {w : World} {base e sz n : Nat} {v : Value} {cs : List Value} (h : w.ownsRow base e sz v n cs) (h1 : ∀ u ∈ cs, u.oneCell' = true) :
 ∃ a cap, v = .slice a n cap /\ RowA w w.heap.size sz a n cap cs := by
 obtain ⟨hl, h2⟩ := h
 rcases h2 with ⟨rfl, rfl⟩ | ⟨g, cap, cur, rfl, hb, hg, hnc, hcm, hcs, htake⟩
 . have : cs = [] := List.eq_nil_of_length_eq_zero (by simpa using hl)
   subst this
   exact ⟨_, _, rfl, RowA.empty _ _ _⟩
 . refine ⟨_, _, rfl, ⟨hl, hnc, hcm, h1, (fun h => by cases h), fun _ => ⟨g, 0, rfl, (Array.getElem?_eq_some_iff.1 hg).1, fun j u hj => ?_⟩⟩⟩
   have := World.ownsRow.cells (w := w) (base := base) (e := e) (size := sz) (v := .slice (some ⟨g, 0, none⟩) n cap) (n := n) (xs := cs) ⟨hl, .inr ⟨g, cap, cur, rfl, hb, hg, hnc, hcm, hcs, htake⟩⟩ (g := g) rfl j u hj
   rwa [addr_add] at this
theorem own_mono {w : World} {base base' e sz n : Nat} {v : Value} {cs : List Value} (h : w.ownsRow base' e sz v n cs) (hb : base <= base') : w.ownsRow base e sz v n cs := by
 obtain ⟨hl, h2⟩ := h
 refine ⟨hl, ?_⟩
 rcases h2 with h2 | ⟨g, cap, cur, hv, hg, r⟩
 . exact .inl h2
 . exact .inr ⟨g, cap, cur, hv, Nat.le_trans hb hg, r⟩
theorem grownBy_trans {a b c : World} {row : Option Nat} (h : a.grownBy b row) (k : b.grownBy c row) : a.grownBy c row :=
 ⟨k.os.trans h.os, k.tape.trans h.tape, k.output.trans h.output, Nat.le_trans h.size k.size, fun i hi hne => (k.block i (Nat.lt_of_lt_of_le hi h.size) hne).trans (h.block i hi hne)⟩
theorem grownBy_of_below {w w' : World} (h : Below w.heap.size w w') : w.grownBy w' none := ⟨h.os, h.tape, h.output, h.size, fun k hk _ => h.block k hk⟩
/-- What is owned stays owned while only new memory is written. -/
theorem own_keep {w w' : World} {base e sz n : Nat} {v : Value} {cs : List Value} (h : w.ownsRow base e sz v n cs) (hb : Below w.heap.size w w') : w'.ownsRow base e sz v n cs :=
 h.kept (grownBy_of_below hb) (by cases hv : v.ownBlock <;> simp)
/-- append(own, xs...), xs any slice. -/
theorem wpList_app {P : Program} {w : World} {ops : Array Oper} {rest : List Oper} {o : Oper} {a : Act} {Q : Exit -> Act -> World -> Prop} (hgd : o.guard = none) (s x : Operand) (t : TypeId)
 (ho : o.op = .call { callee := .builtin .append, args := #[s, x], argTypes := #[t, t] })
 (base : Nat) (e : TypeId) (z : Value) (size bytes : Nat) (ht : P.underlying t = some (.slice e)) (hi : (P.info? e).map (fun i => (i.zero, i.size, i.bytes)) = some (some z, size, bytes))
 (hzs : z.cells.size = size) (hsz : 0 < size)
 (v : Value) (n : Nat) (xs : List Value) (hs : a.eval s = v) (hown : w.ownsRow base e size v n xs)
 (ad : Option Addr) (m c B : Nat) (news : List Value) (hx : a.eval x = .slice ad m c) (hr : RowA w B size ad m c news)
 (h63 : n + m <= maxLen) (hbytes : (n + m) * bytes <= 140737488355328) (hbase : base <= w.heap.size)
 (h : ∀ v' w', w'.ownsRow base e size v' (n + m) (xs ++ news) -> w.grownBy w' v.ownBlock -> wpList P ops Q rest (a.put o.dst v') w') : wpList P ops Q (o :: rest) a w := by
 obtain ⟨i, hi', hz, hsize, hby⟩ := info_parts hi
 cases ad with
 | some ad =>
   exact wpList_append_own w hgd s x t ho base e i z size bytes ht hi' hz hsize hby hzs hsz v n xs hs hown ad m c news hx hr.len hr.cells hr.one h63 hbytes hbase (fun v' w' h2 h3 _ => h v' w' h2 h3)
 | none =>
   obtain rfl := hr.nil rfl
   obtain rfl : m = 0 := by have := hr.le; omega
   have : news = [] := List.eq_nil_of_length_eq_zero (by simpa using hr.len)
   subst this
   refine wpList_append_own_none hgd s x t ho base e i size ht hi' v n xs hs hown hx ?_
   have := h v w (by simpa using hown) (World.grownBy.refl w _)
   exact this
/-- append(own, xs...) as one step of a region that draws. -/
theorem step_app {P : Program} {ops : Array Oper} {o : Oper} {a : Act} {w : World} {K : Act -> World -> Prop} {Q : Exit -> Act -> World -> Prop} {E : Prop}
 (hg : o.guard = none) (s x : Operand) (t : TypeId) (ho : o.op = .call { callee := .builtin .append, args := #[s, x], argTypes := #[t, t] })
 (base : Nat) (e : TypeId) (z : Value) (size bytes : Nat) (ht : P.underlying t = some (.slice e)) (hi : (P.info? e).map (fun i => (i.zero, i.size, i.bytes)) = some (some z, size, bytes))
 (hzs : z.cells.size = size) (hsz : 0 < size)
 (v : Value) (n : Nat) (xs : List Value) (hs : a.eval s = v) (hown : w.ownsRow base e size v n xs)
 (ad : Option Addr) (m c B : Nat) (news : List Value) (hx : a.eval x = .slice ad m c) (hr : RowA w B size ad m c news)
 (h63 : n + m <= maxLen) (hbytes : (n + m) * bytes <= 140737488355328) (hbase : base <= w.heap.size)
 (h : ∀ v' w', w'.ownsRow base e size v' (n + m) (xs ++ news) -> w.grownBy w' v.ownBlock -> K (a.put o.dst v') w') : if Region.wanted o (yielded ops a.tmps) = true then Oper.wp P o a w K Q else E := by
 have hw : Region.wanted o (yielded ops a.tmps) = true := by simp [Region.wanted, hg]
 rw [if_pos hw]
 obtain ⟨i, hi', hz, hsize, hby⟩ := info_parts hi
 cases ad with
 | some ad =>
   exact wp_append_own w s x t ho base e i z size bytes ht hi' hz hsize hby hzs hsz v n xs hs hown ad m c news hx hr.len hr.cells hr.one h63 hbytes hbase (fun v' w' h2 h3 _ => h v' w' h2 h3)
 | none =>
   obtain rfl := hr.nil rfl
   obtain rfl : m = 0 := by have := hr.le; omega
   have : news = [] := List.eq_nil_of_length_eq_zero (by simpa using hr.len)
   subst this
   have hrun := run_append_owned_none (P := P) (w := w) base t o.type e i size ht hi' v n xs hown
   unfold Oper.wp
   simp [execOp, ho, resolve, invoke, builtin, hs, hx, hrun, Result.andThen]
   exact h v w (by simpa using hown) (World.grownBy.refl w _)
/-- A call of a Go function as one step of a region that draws, met by its contract. -/
theorem step_call {P : Program} {ops : Array Oper} {o : Oper} {a : Act} {w : World} {K : Act -> World -> Prop} {Q : Exit -> Act -> World -> Prop} {E : Prop}
 (hg : o.guard = none) (f : FuncId) (args : Array Operand) (tys : Array TypeId) (ho : o.op = .call { callee := .value (.func f), args := args, argTypes := tys })
 (he : ∀ args w, (callFunc f args).run P w = .ok (.enter f args) w) (vals : List Value) (hv : args.toList.map a.eval = vals) (R : Ending -> World -> Prop) (hC : Calls P f vals.toArray w R)
 (h : ∀ e w', R e w' -> ∃ v, e = .returned v /\ K (a.put o.dst v) w') : if Region.wanted o (yielded ops a.tmps) = true then Oper.wp P o a w K Q else E := by
 have hw : Region.wanted o (yielded ops a.tmps) = true := by simp [Region.wanted, hg]
 rw [if_pos hw]
 unfold Oper.wp
 have hv' : args.map a.eval = vals.toArray := by rw [<- hv]; apply Array.ext'; simp
 have hr : (execOp a.eval o).run P w = .ok (.enter f vals.toArray) w := by
  simp [execOp, ho, resolve, invoke, Act.eval, Deferred.ofValue, hv', he]
 rw [hr]
 show Calls P f vals.toArray w _
 refine hC.mono fun e w' hR => ?_
 obtain ⟨v, rfl, hk⟩ := h e w' hR
 exact hk
/-- append(nil, make([]T, m)...): a new row with room for m. -/
theorem wpList_nil_zeros {P : Program} {w : World} {ops : Array Oper} {rest : List Oper} {o : Oper} {a : Act} {Q : Exit -> Act -> World -> Prop} (hgd : o.guard = none) (s x : Operand) (t tn : TypeId)
 (ho : o.op = .call { callee := .builtin .append, args := #[s, x], argTypes := #[t, tn] })
 (e : TypeId) (z : Value) (size bytes : Nat) (ht : P.underlying t = some (.slice e)) (htn : P.underlying tn = some (.int .i64)) (hi : (P.info? e).map (fun i => (i.zero, i.size, i.bytes)) = some (some z, size, bytes))
 (hzs : z.cells.size = size) (hsz : 0 < size) (m : Nat) (hm : 0 < m) (hs : a.eval s = .slice none 0 0) (hx : a.eval x = .int .i64 m)
 (h63 : m <= 9223372036854775807) (hbytes : m * bytes <= 140737488355328)
 (h : ∀ g cap w', w'.ownsRow w.heap.size e size (.slice (some ⟨g, 0, none⟩) 0 cap) 0 [] -> m <= cap -> cap <= maxLen -> Below w.heap.size w w' -> wpList P ops Q rest (a.put o.dst (.slice (some ⟨g, 0, none⟩) m cap)) w') : wpList P ops Q (o :: rest) a w := by
 obtain ⟨i, hi', hz, hsize, hby⟩ := info_parts hi
 have hr := Lib.run_append_nil_zeros (P := P) w t tn o.type e i z .i64 .i64 ht htn hi' hz m hm (by omega) (by omega) (by rw [hby]; omega)
 refine Lib.wpList_append_run w hgd s x t tn ho _ _ hs hx _ _ hr ?_
 have hge := grownCap_ge w m 0 e
 have hcm := grownCap_le_maxLen w m 0 e (by unfold maxLen; omega)
 refine h _ _ _ ?_ hge hcm ?_
 . exact World.ownsRow_made w.drew _ _ (Nat.le_refl _) hcm (by rw [Array.size_append, size_zeroCells, size_zeroCells, hzs, <- Nat.add_mul]; congr 1; omega)
 . exact ((Below.refl _ _).drew).alloc (Nat.le_refl _) _
/-- A slice of integers. -/
structure Ints (k : IntKind) (w : World) (B : Nat) (v : Value) (zs : List Int) : Prop where
 row : ∃ a cap, v = .slice a zs.length cap /\ RowA w B 1 a zs.length cap (zs.map (Value.int k))
 wf : ∀ z ∈ zs, (Lit.int k z).wf = true
theorem Ints.keep {k : IntKind} {w w' : World} {B B' : Nat} {v : Value} {zs : List Int} (h : Ints k w B v zs) (hb : Below B w w') (hB : B <= B') : Ints k w' B' v zs := by
 obtain ⟨⟨a, cap, hv, hr⟩, hw⟩ := h
 exact ⟨⟨a, cap, hv, hr.keep hb hB⟩, hw⟩
/-- The cell of an element, for a walk. -/
theorem RowA.int_at {k : IntKind} {w : World} {B n cap : Nat} {a : Option Addr} {zs : List Int} (h : RowA w B 1 a n cap (zs.map (Value.int k))) (j : Nat) (hj : j < zs.length) :
 ∃ b off, a = some ⟨b, off, none⟩ /\ b < B /\ ∀ i, i < zs.length -> w.cell? ⟨b, off + i, none⟩ = some (.int k (zs.getD i 0)) := by
 obtain ⟨b, off, ha, hlt, hcell⟩ := h.some_ (by intro h0; simp at h0; subst h0; simp at hj)
 refine ⟨b, off, ha, hlt, fun i hi => hcell i _ ?_⟩
 simp [List.getElem?_map, List.getD, List.getElem?_eq_getElem hi]
theorem ints_one (k : IntKind) (zs : List Int) : ∀ u ∈ zs.map (Value.int k), u.oneCell' = true := ints_oneCell k zs
/-- Several slices, of one cell an element. -/
structure Parts (w : World) (B : Nat) (vals : List Value) (pss : List (List Value)) : Prop where
 len : vals.length = pss.length
 each : ∀ i, i < pss.length -> ∃ a cap, vals[i]? = some (.slice a (pss.getD i []).length cap) /\ RowA w B 1 a (pss.getD i []).length cap (pss.getD i [])
theorem Parts.keep {w w' : World} {B B' : Nat} {vals : List Value} {pss : List (List Value)} (h : Parts w B vals pss) (hb : Below B w w') (hB : B <= B') : Parts w' B' vals pss :=
 ⟨h.len, fun i hi => by obtain ⟨a, cap, h1, h2⟩ := h.each i hi; exact ⟨a, cap, h1, h2.keep hb hB⟩⟩
theorem Parts.nil (w : World) (B : Nat) : Parts w B [] [] := ⟨rfl, fun i hi => by simp at hi⟩
theorem Parts.cons {w : World} {B n cap : Nat} {a : Option Addr} {cs : List Value} {vals : List Value} {pss : List (List Value)} (h : RowA w B 1 a n cap cs) (hp : Parts w B vals pss) : Parts w B (.slice a n cap :: vals) (cs :: pss) := by
 have hn : cs.length = n := by simpa using h.len
 subst hn
 refine ⟨by simp [hp.len], fun i hi => ?_⟩
 cases i with
 | zero => exact ⟨a, cap, rfl, h⟩
 | succ i => exact hp.each i (by simpa using hi)
theorem Parts.one {w : World} {B : Nat} {vals : List Value} {pss : List (List Value)} (h : Parts w B vals pss) : ∀ u ∈ vals, u.oneCell' = true := by
 intro u hu
 obtain ⟨i, hi, rfl⟩ := List.mem_iff_getElem.1 hu
 obtain ⟨a, cap, h1, _⟩ := h.each i (by rw [<- h.len]; exact hi)
 rw [List.getElem?_eq_getElem hi] at h1
 rw [Option.some.inj h1]; rfl
/-- A literal of such slices, in a new block, behind a draw. -/
theorem Parts.lit {w : World} {vals : List Value} {pss : List (List Value)} (h : Parts w w.heap.size vals pss) (E : TypeId) (hm : vals.length <= 1000000) :
 RowA (w.alloc (.cells vals.toArray E)).drew (w.heap.size + 1) 1 (some ⟨w.heap.size, 0, none⟩) vals.length vals.length vals /\ Parts (w.alloc (.cells vals.toArray E)).drew (w.heap.size + 1) vals pss /\ w.heap.size + 1 <= (w.alloc (.cells vals.toArray E)).drew.heap.size := by
 refine ⟨⟨by simp, Nat.le_refl _, by unfold maxLen; omega, h.one, (fun h => by cases h), fun _ => ⟨w.heap.size, 0, rfl, by omega, fun j u hj => ?_⟩⟩, h.keep (((Below.refl _ _).alloc (Nat.le_refl _) _).drew) (by omega), by simp⟩
 have hg : (w.alloc (.cells vals.toArray E)).drew.heap[w.heap.size]? = some (.cells vals.toArray E (0, 0)) := heap_alloc_new w _
 rw [cell_of_row _ w.heap.size (0 + j) vals.toArray E (0, 0) hg]
 simpa using hj
/-- How long the first k are together. -/
def tot (pss : List (List Value)) (k : Nat) : Nat := (pss.take k).flatten.length
theorem tot_zero (pss : List (List Value)) : tot pss 0 = 0 := by simp [tot]
theorem flat_succ (pss : List (List Value)) (k : Nat) (h : k < pss.length) : (pss.take (k + 1)).flatten = (pss.take k).flatten ++ pss.getD k [] := by
 rw [getD_of_lt h, List.take_succ_eq_append_getElem h, List.flatten_append, List.flatten_singleton]
theorem tot_succ (pss : List (List Value)) (k : Nat) (h : k < pss.length) : tot pss (k + 1) = tot pss k + (pss.getD k []).length := by
 unfold tot; rw [flat_succ pss k h]; simp
theorem tot_le (pss : List (List Value)) (k : Nat) : tot pss k <= pss.flatten.length := by
 unfold tot
 conv => rhs; rw [<- List.take_append_drop k pss, List.flatten_append, List.length_append]
 omega
theorem tot_all (pss : List (List Value)) : tot pss pss.length = pss.flatten.length := by simp [tot]
/-- Nothing but draws. -/
def Drawn (w w' : World) : Prop := ∃ q, w' = w.drewN q
theorem drawn_zero (w : World) : Drawn w w := ⟨0, rfl⟩
theorem drawn_one (w : World) (n : Nat) : Drawn w (w.drewN n) := ⟨n, rfl⟩
theorem drawn_two (w : World) (n m : Nat) : Drawn w ((w.drewN n).drewN m) := ⟨n + m, by simp [World.drewN, Nat.add_assoc]⟩
theorem Drawn.below {w w' : World} (h : Drawn w w') (B : Nat) : Below B w w' := by obtain ⟨q, rfl⟩ := h; exact below_drewN (Below.refl _ _) _
/-- The first k are the same. -/
def SameTo {α : Type} (xs ys : List α) (k : Nat) : Prop := xs.take k = ys.take k
theorem sameTo_zero {α : Type} (xs ys : List α) : SameTo xs ys 0 := by simp [SameTo]
theorem sameTo_succ {α : Type} {xs ys : List α} {k : Nat} (h : SameTo xs ys k) (h1 : k < xs.length) (h2 : k < ys.length) (he : xs[k] = ys[k]) : SameTo xs ys (k + 1) := by
 unfold SameTo at *
 rw [List.take_succ_eq_append_getElem h1, List.take_succ_eq_append_getElem h2, h, he]
theorem sameTo_all {α : Type} {xs ys : List α} (h : SameTo xs ys xs.length) (hl : xs.length = ys.length) : xs = ys := by
 unfold SameTo at h
 rw [List.take_of_length_le (Nat.le_refl _), List.take_of_length_le (by omega)] at h
 exact h
theorem same_not {α : Type} {xs ys : List α} {k : Nat} (h1 : k < xs.length) (h2 : k < ys.length) (he : xs[k] ≠ ys[k]) : xs ≠ ys := by
 rintro rfl; exact he rfl
/-- The call returned a slice of its own, with these cells; what was there is as it was. -/
def MadeRow (w : World) (e : TypeId) (sz n : Nat) (cs : List Value) (x : Ending) (w' : World) : Prop :=
 ∃ v, x = .returned v /\ w'.ownsRow w.heap.size e sz v n cs /\ Below w.heap.size w w'
/-- The call returned numbers in a slice of its own, and an error's number. -/
def MadeE (k : IntKind) (w : World) (t : TypeId) (zs : List Int) (e : Int) (x : Ending) (w' : World) : Prop :=
 ∃ v, x = .returned (.tuple #[v, .int .i64 e]) /\ w'.ownsRow w.heap.size t 1 v zs.length (zs.map (Value.int k)) /\ Below w.heap.size w w'
/-- The call returned two lists of numbers in slices of its own, and an error's number. -/
def MadeEE (k : IntKind) (w : World) (t : TypeId) (xs ys : List Int) (e : Int) (x : Ending) (w' : World) : Prop :=
 ∃ v u, x = .returned (.tuple #[v, u, .int .i64 e]) /\ w'.ownsRow w.heap.size t 1 v xs.length (xs.map (Value.int k)) /\ w'.ownsRow w.heap.size t 1 u ys.length (ys.map (Value.int k)) /\ (v.ownBlock = none ∨ v.ownBlock ≠ u.ownBlock) /\ Below w.heap.size w w'
/-- What a call that made numbers leaves, for the next walk. -/
theorem MadeE.open {k : IntKind} {w w' : World} {t : TypeId} {zs : List Int} {e : Int} {x : Ending} (h : MadeE k w t zs e x w') (hw : ∀ z ∈ zs, (Lit.int k z).wf = true) :
 ∃ a cap, x = .returned (.tuple #[.slice a zs.length cap, .int .i64 e]) /\ Ints k w' w'.heap.size (.slice a zs.length cap) zs /\ Below w.heap.size w w' := by
 obtain ⟨v, rfl, hown, hb⟩ := h
 obtain ⟨a, cap, rfl, hr⟩ := row_of_own hown (ints_one k zs)
 exact ⟨a, cap, rfl, ⟨⟨a, cap, rfl, hr⟩, hw⟩, hb⟩
theorem MadeEE.open {k : IntKind} {w w' : World} {t : TypeId} {xs ys : List Int} {e : Int} {x : Ending} (h : MadeEE k w t xs ys e x w') (hw : ∀ z ∈ xs, (Lit.int k z).wf = true) (hw' : ∀ z ∈ ys, (Lit.int k z).wf = true) :
 ∃ a cap a' cap', x = .returned (.tuple #[.slice a xs.length cap, .slice a' ys.length cap', .int .i64 e]) /\ Ints k w' w'.heap.size (.slice a xs.length cap) xs /\ Ints k w' w'.heap.size (.slice a' ys.length cap') ys /\ Below w.heap.size w w' := by
 obtain ⟨v, u, rfl, hown, hown', _, hb⟩ := h
 obtain ⟨a, cap, rfl, hr⟩ := row_of_own hown (ints_one k xs)
 obtain ⟨a', cap', rfl, hr'⟩ := row_of_own hown' (ints_one k ys)
 exact ⟨a, cap, a', cap', rfl, ⟨⟨a, cap, rfl, hr⟩, hw⟩, ⟨⟨a', cap', rfl, hr'⟩, hw'⟩, hb⟩
/-- Is a number a rune? -/
def validB (c : Int) : Bool := decide (0 <= c /\ c < 55296 ∨ 57343 < c /\ c <= 1114111)
/-- The place of the first one that is wanted; -1: there is none. -/
def idx {α : Type} (p : α -> Bool) (zs : List α) : Int := match zs.findIdx? p with | some i => (i : Int) | none => -1
/-- None of the first k is wanted. -/
def Upto {α : Type} (p : α -> Bool) (zs : List α) (k : Nat) : Prop := ∀ x ∈ zs.take k, p x = false
theorem upto_zero {α : Type} (p : α -> Bool) (zs : List α) : Upto p zs 0 := by simp [Upto]
theorem upto_succ {α : Type} {p : α -> Bool} {zs : List α} {k : Nat} (h : Upto p zs k) (hk : k < zs.length) (hp : p zs[k] = false) : Upto p zs (k + 1) := by
 intro x hx
 rw [List.take_succ_eq_append_getElem hk] at hx
 rcases List.mem_append.1 hx with hx | hx
 . exact h x hx
 . simp at hx; subst hx; exact hp
theorem idx_at {α : Type} {p : α -> Bool} {zs : List α} {k : Nat} (h : Upto p zs k) (hk : k < zs.length) (hp : p zs[k] = true) : idx p zs = k := by
 have : zs.findIdx? p = some k := by
  rw [List.findIdx?_eq_some_iff_getElem]
  refine ⟨hk, hp, fun j hj => ?_⟩
  have := h zs[j] (by rw [List.mem_take_iff_getElem]; exact ⟨j, by omega, rfl⟩)
  simp [this]
 simp [idx, this]
theorem idx_none {α : Type} {p : α -> Bool} {zs : List α} (h : Upto p zs zs.length) : idx p zs = -1 := by
 have : zs.findIdx? p = none := by
  rw [List.findIdx?_eq_none_iff]
  intro x hx
  exact h x (by simpa using hx)
 simp [idx, this]
theorem idx_any {α : Type} (p : α -> Bool) (zs : List α) : decide (0 <= idx p zs) = zs.any p := by
 unfold idx
 cases h : zs.findIdx? p with
 | none =>
   rw [List.findIdx?_eq_none_iff] at h
   have : zs.any p = false := by rw [List.any_eq_false]; intro x hx; simp [h x hx]
   simp [this]
 | some i =>
   have h' := h
   rw [List.findIdx?_eq_some_iff_getElem] at h'
   obtain ⟨hi, hp, _⟩ := h'
   have : zs.any p = true := List.any_eq_true.2 ⟨zs[i], List.getElem_mem hi, hp⟩
   simp [this]
/-- A hexadecimal digit. -/
def dig (n : Nat) : UInt8 := if n < 10 then UInt8.ofNat (48 + n) else UInt8.ofNat (87 + n)
/-- A number's hexadecimal digits; f: as many at most. -/
def hexF : Nat -> Nat -> List UInt8
 | 0, _ => []
 | f + 1, n => if n < 16 then [dig n] else hexF f (n / 16) ++ [dig (n % 16)]
def hexL (n : Nat) : List UInt8 := hexF 20 n
/-- The block's cells from i on are these bytes. -/
structure TailAt (w : World) (ba : Nat) (E : TypeId) (i : Nat) (L : List UInt8) : Prop where
 at_ : ∃ cur, w.heap[ba]? = some (.cells cur E (0, 0)) /\ cur.size = 65 /\ cur.toList.drop i = Lib.byteCells L
theorem TailAt.cell {w : World} {ba i : Nat} {E : TypeId} {L : List UInt8} (h : TailAt w ba E i L) (j : Nat) (hj : j < 65) : ∃ x, w.cell? ⟨ba, j, none⟩ = some x /\ w.frozen? ⟨ba, j, none⟩ = false := by
 obtain ⟨cur, h1, h2, h3⟩ := h.at_
 have : j < cur.size := by omega
 exact ⟨cur[j], by simp [World.cell?, h1, Array.getElem?_eq_getElem this], by simp [World.frozen?, h1]⟩
theorem TailAt.put {w : World} {ba i : Nat} {E : TypeId} {L : List UInt8} (h : TailAt w ba E i L) (hi : 1 <= i) (hi' : i <= 65) (c : UInt8) : TailAt (w.setCell ⟨ba, i - 1, none⟩ (.int .u8 c.toNat)) ba E (i - 1) (c :: L) := by
 obtain ⟨cur, h1, h2, h3⟩ := h.at_
 refine ⟨cur.setIfInBounds (i - 1) (.int .u8 c.toNat), by simp [World.setCell, Array.getElem?_modify, h1], by simp [h2], ?_⟩
 have hlt : i - 1 < cur.size := by omega
 have hs : (i - 1) + 1 = i := by omega
 rw [Array.toList_setIfInBounds, List.drop_set, if_neg (by omega), Nat.sub_self]
 have hd : cur.toList.drop (i - 1) = cur[i - 1] :: cur.toList.drop i := by
  rw [List.drop_eq_getElem_cons (by simpa using hlt), hs]; simp
 rw [hd, h3]
 simp [Lib.byteCells]
/-- string(bytes), the bytes at known cells. -/
theorem bytes_string {P : Program} {w : World} {src dst e : TypeId} (hs : P.underlying src = some (.slice e)) (he : P.underlying e = some (.int .u8)) (hd : P.underlying dst = some .string)
 (b off n cap : Nat) (L : List UInt8) (hn : L.length = n) (hc : ∀ j, j < L.length -> w.cell? ⟨b, off + j, none⟩ = some (.int .u8 (L.getD j 0).toNat)) :
 (convert src dst (.slice (some ⟨b, off, none⟩) n cap)).run P w = .ok (.string ⟨L.toArray⟩) w := by
 subst hn
 rw [run_convert_bytes_arg w src e hs he b off L.length cap (L.map fun c => (c.toNat : Int)) (by simp) (fun i hi => by rw [hc i hi]; simp [List.getD, List.getElem?_eq_getElem hi]) dst hd]
 have : strOfNums (L.map fun c => (c.toNat : Int)) = ⟨L.toArray⟩ := by
  simp [strOfNums, Function.comp_def]
 rw [this]
theorem TailAt.string {P : Program} {w : World} {src dst e : TypeId} (hs : P.underlying src = some (.slice e)) (he : P.underlying e = some (.int .u8)) (hd : P.underlying dst = some .string)
 {ba i : Nat} {E : TypeId} {L : List UInt8} (h : TailAt w ba E i L) (n cap : Nat) (hn : L.length = n) : (convert src dst (.slice (some ⟨ba, i, none⟩) n cap)).run P w = .ok (.string ⟨L.toArray⟩) w := by
 obtain ⟨cur, h1, h2, h3⟩ := h.at_
 refine bytes_string hs he hd ba i n cap L hn fun j hj => ?_
 have h4 : cur.toList[i + j]? = some (.int .u8 (L.getD j 0).toNat) := by
  rw [<- List.getElem?_drop, h3]
  simp [Lib.byteCells, List.getD, List.getElem?_eq_getElem hj]
 simp only [World.cell?, h1]
 simpa using h4
/-- How a rune is escaped. -/
def escL (n : Nat) : List UInt8 := 92 :: (hexL n ++ [59])
/-- Does a rune stand as it is? -/
def plainB (c : Int) : Bool := decide (32 <= c /\ c <= 126 /\ c ≠ 34 /\ c ≠ 92)
/-- A rune's bytes in a quoted text. -/
def qb (c : Int) : List UInt8 := if plainB c then [UInt8.ofNat c.toNat] else escL c.toNat
end Go.Redl
/- Trees as plain data; how they lie in memory. No program in sight. -/
namespace Go.Redl
open Go.RowKit
abbrev PropD := List UInt8 × List UInt8
/-- A tree. -/
inductive NodeD where
 | mk (leaf : Bool) (props : List PropD) (text : List Int) (kids : List NodeD)
/-- The cells of properties. -/
def propCells (ps : List PropD) : List Value := ps.flatMap fun p => [.string ⟨p.1.toArray⟩, .string ⟨p.2.toArray⟩]
theorem propCells_len (ps : List PropD) : (propCells ps).length = ps.length * 2 := by
 induction ps with
 | nil => rfl
 | cons p ps ih => simp only [propCells, List.flatMap_cons, List.length_append, List.length_cons, List.length_nil] at *; omega
theorem propCells_one (ps : List PropD) : ∀ u ∈ propCells ps, u.oneCell' = true := by
 intro u hu
 simp only [propCells, List.mem_flatMap] at hu
 obtain ⟨p, -, hp⟩ := hu
 simp at hp
 rcases hp with rfl | rfl <;> rfl
theorem propCells_at : ∀ (ps : List PropD) (i : Nat) (hi : i < ps.length), (propCells ps)[i * 2]? = some (.string ⟨ps[i].1.toArray⟩) /\ (propCells ps)[i * 2 + 1]? = some (.string ⟨ps[i].2.toArray⟩)
 | [], i, hi => absurd hi (by simp)
 | p :: ps, 0, hi => by simp [propCells]
 | p :: ps, i + 1, hi => by
   have h := propCells_at ps i (by simpa using hi)
   have e : propCells (p :: ps) = .string ⟨p.1.toArray⟩ :: .string ⟨p.2.toArray⟩ :: propCells ps := by simp [propCells]
   rw [e, show (i + 1) * 2 = i * 2 + 1 + 1 by omega]
   simpa using h
/-- How much properties, and a tree, hold. -/
def propsWt : List PropD -> Nat
 | [] => 0
 | p :: ps => 2 + p.1.length + p.2.length + propsWt ps
mutual
def NodeD.wt : NodeD -> Nat
 | .mk _ ps t ks => 1 + propsWt ps + t.length + wtAll ks
def wtAll : List NodeD -> Nat
 | [] => 0
 | k :: ks => k.wt + wtAll ks
end
theorem propsWt_len (ps : List PropD) : 2 * ps.length <= propsWt ps := by
 induction ps with
 | nil => simp [propsWt]
 | cons p ps ih => simp only [propsWt, List.length_cons]; omega
theorem propsWt_mem {ps : List PropD} {p : PropD} (h : p ∈ ps) : 2 + p.1.length + p.2.length <= propsWt ps := by
 induction ps with
 | nil => cases h
 | cons q ps ih =>
   simp only [propsWt]
   rcases List.mem_cons.1 h with rfl | h
   . omega
   . have := ih h; omega
theorem wt_pos (n : NodeD) : 1 <= n.wt := by cases n; simp only [NodeD.wt]; omega
theorem wtAll_len (ks : List NodeD) : ks.length <= wtAll ks := by
 induction ks with
 | nil => simp
 | cons k ks ih => have := wt_pos k; simp only [wtAll, List.length_cons]; omega
theorem wtAll_mem {ks : List NodeD} {k : NodeD} (h : k ∈ ks) : k.wt <= wtAll ks := by
 induction ks with
 | nil => cases h
 | cons q ks ih =>
   simp only [wtAll]
   rcases List.mem_cons.1 h with rfl | h
   . omega
   . have := ih h; omega
theorem wtAll_append (a b : List NodeD) : wtAll (a ++ b) = wtAll a + wtAll b := by
 induction a with
 | nil => simp [wtAll]
 | cons k ks ih => simp only [List.cons_append, wtAll, ih]; omega
mutual
/-- A tree's cells; all that it leads to lies below block B. -/
def NodeC (w : World) (B : Nat) : NodeD -> List Value -> Prop
 | .mk l ps t ks, cs => ∃ ap cp at_ ct ak ck css, cs = [.bool l, .slice ap ps.length cp, .slice at_ t.length ct, .slice ak ks.length ck] /\ RowA w B 2 ap ps.length cp (propCells ps) /\
     RowA w B 1 at_ t.length ct (t.map (Value.int .i32)) /\ (∀ z ∈ t, (Lit.int .i32 z).wf = true) /\ RowA w B 4 ak ks.length ck css /\ KidsC w B ks css
def KidsC (w : World) (B : Nat) : List NodeD -> List Value -> Prop
 | [], css => css = []
 | k :: ks, css => ∃ c1 c2, css = c1 ++ c2 /\ NodeC w B k c1 /\ KidsC w B ks c2
end
mutual
theorem NodeC.keep {w w' : World} {B B' : Nat} (hb : Below B w w') (hB : B <= B') : ∀ (n : NodeD) (cs : List Value), NodeC w B n cs -> NodeC w' B' n cs
 | .mk l ps t ks, cs => by
   intro h
   unfold NodeC at h ⊢
   obtain ⟨ap, cp, at_, ct, ak, ck, css, h1, h2, h3, h4, h5, h6⟩ := h
   exact ⟨ap, cp, at_, ct, ak, ck, css, h1, h2.keep hb hB, h3.keep hb hB, h4, h5.keep hb hB, KidsC.keep hb hB ks css h6⟩
theorem KidsC.keep {w w' : World} {B B' : Nat} (hb : Below B w w') (hB : B <= B') : ∀ (ks : List NodeD) (css : List Value), KidsC w B ks css -> KidsC w' B' ks css
 | [], css => by intro h; unfold KidsC at h ⊢; exact h
 | k :: ks, css => by
   intro h
   unfold KidsC at h ⊢
   obtain ⟨c1, c2, h1, h2, h3⟩ := h
   exact ⟨c1, c2, h1, NodeC.keep hb hB k c1 h2, KidsC.keep hb hB ks c2 h3⟩
end
theorem NodeC.len {w : World} {B : Nat} {n : NodeD} {cs : List Value} (h : NodeC w B n cs) : cs.length = 4 := by
 cases n; unfold NodeC at h; obtain ⟨ap, cp, at_, ct, ak, ck, css, h1, -⟩ := h; subst h1; rfl
theorem NodeC.one {w : World} {B : Nat} {n : NodeD} {cs : List Value} (h : NodeC w B n cs) : ∀ u ∈ cs, u.oneCell' = true := by
 cases n; unfold NodeC at h; obtain ⟨ap, cp, at_, ct, ak, ck, css, h1, -⟩ := h; subst h1
 intro u hu
 simp at hu
 rcases hu with rfl | rfl | rfl | rfl <;> rfl
theorem KidsC.len {w : World} {B : Nat} : ∀ {ks : List NodeD} {css : List Value}, KidsC w B ks css -> css.length = ks.length * 4
 | [], css, h => by unfold KidsC at h; subst h; rfl
 | k :: ks, css, h => by
   unfold KidsC at h
   obtain ⟨c1, c2, rfl, h2, h3⟩ := h
   have a := h2.len; have b := KidsC.len h3
   simp only [List.length_append, List.length_cons]; omega
theorem KidsC.one {w : World} {B : Nat} : ∀ {ks : List NodeD} {css : List Value}, KidsC w B ks css -> ∀ u ∈ css, u.oneCell' = true
 | [], css, h => by unfold KidsC at h; subst h; simp
 | k :: ks, css, h => by
   unfold KidsC at h
   obtain ⟨c1, c2, rfl, h2, h3⟩ := h
   intro u hu
   rcases List.mem_append.1 hu with hu | hu
   . exact h2.one u hu
   . exact KidsC.one h3 u hu
/-- One child's cells. -/
theorem KidsC.at_ {w : World} {B : Nat} : ∀ {ks : List NodeD} {css : List Value}, KidsC w B ks css -> ∀ (i : Nat) (hi : i < ks.length), ∃ c, NodeC w B ks[i] c /\ ∀ j, j < 4 -> css[i * 4 + j]? = c[j]?
 | [], css, h, i, hi => absurd hi (by simp)
 | k :: ks, css, h, 0, hi => by
   unfold KidsC at h
   obtain ⟨c1, c2, rfl, h2, h3⟩ := h
   refine ⟨c1, h2, fun j hj => ?_⟩
   rw [Nat.zero_mul, Nat.zero_add, List.getElem?_append_left (by rw [h2.len]; exact hj)]
 | k :: ks, css, h, i + 1, hi => by
   unfold KidsC at h
   obtain ⟨c1, c2, rfl, h2, h3⟩ := h
   obtain ⟨c, hc, hall⟩ := KidsC.at_ h3 i (by simpa using hi)
   refine ⟨c, by simpa using hc, fun j hj => ?_⟩
   rw [List.getElem?_append_right (by rw [h2.len]; omega), <- hall j hj, h2.len]
   congr 1; omega
theorem KidsC.append {w : World} {B : Nat} : ∀ {ks ks' : List NodeD} {css css' : List Value}, KidsC w B ks css -> KidsC w B ks' css' -> KidsC w B (ks ++ ks') (css ++ css')
 | [], ks', css, css', h, h' => by unfold KidsC at h; subst h; exact h'
 | k :: ks, ks', css, css', h, h' => by
   unfold KidsC at h
   obtain ⟨c1, c2, rfl, h2, h3⟩ := h
   rw [List.cons_append]
   unfold KidsC
   exact ⟨c1, c2 ++ css', by simp, h2, KidsC.append h3 h'⟩
/-- A tree as a value. -/
def NodeV (w : World) (B : Nat) (n : NodeD) (v : Value) : Prop := ∃ cs, v = .agg cs.toArray /\ NodeC w B n cs
theorem NodeV.keep {w w' : World} {B B' : Nat} {n : NodeD} {v : Value} (h : NodeV w B n v) (hb : Below B w w') (hB : B <= B') : NodeV w' B' n v := by
 obtain ⟨cs, h1, h2⟩ := h
 exact ⟨cs, h1, NodeC.keep hb hB n cs h2⟩
theorem NodeV.open {w : World} {B : Nat} {l : Bool} {ps : List PropD} {t : List Int} {ks : List NodeD} {v : Value} (h : NodeV w B (.mk l ps t ks) v) :
 ∃ ap cp at_ ct ak ck css, v = .agg #[.bool l, .slice ap ps.length cp, .slice at_ t.length ct, .slice ak ks.length ck] /\ RowA w B 2 ap ps.length cp (propCells ps) /\
   Ints .i32 w B (.slice at_ t.length ct) t /\ RowA w B 4 ak ks.length ck css /\ KidsC w B ks css := by
 obtain ⟨cs, rfl, h⟩ := h
 unfold NodeC at h
 obtain ⟨ap, cp, at_, ct, ak, ck, css, rfl, h2, h3, h4, h5, h6⟩ := h
 exact ⟨ap, cp, at_, ct, ak, ck, css, rfl, h2, ⟨⟨at_, ct, rfl, h3⟩, h4⟩, h5, h6⟩
/-- A property's cells, at an index; a child's. -/
theorem RowA.prop_at {w : World} {B cap : Nat} {a : Option Addr} {ps : List PropD} (h : RowA w B 2 a ps.length cap (propCells ps)) (i : Nat) (hi : i < ps.length) :
 ∃ b off, a = some ⟨b, off, none⟩ /\ b < B /\ w.cell? ⟨b, off + i * 2, none⟩ = some (.string ⟨ps[i].1.toArray⟩) /\ w.cell? ⟨b, off + i * 2 + 1, none⟩ = some (.string ⟨ps[i].2.toArray⟩) := by
 obtain ⟨b, off, ha, hb, hc⟩ := h.some_ (by
  intro he
  have := propCells_len ps
  rw [he] at this
  simp at this; omega)
 obtain ⟨h1, h2⟩ := propCells_at ps i hi
 exact ⟨b, off, ha, hb, hc _ _ h1, by have := hc _ _ h2; rwa [<- Nat.add_assoc] at this⟩
theorem NodeC.form {w : World} {B : Nat} {n : NodeD} {cs : List Value} (h : NodeC w B n cs) : ∃ l a1 n1 c1 a2 n2 c2 a3 n3 c3, cs = [.bool l, .slice a1 n1 c1, .slice a2 n2 c2, .slice a3 n3 c3] := by
 cases n; unfold NodeC at h; obtain ⟨ap, cp, at_, ct, ak, ck, css, h1, -⟩ := h
 exact ⟨_, _, _, _, _, _, _, _, _, _, h1⟩
theorem RowA.kid_at {w : World} {B cap : Nat} {a : Option Addr} {ks : List NodeD} {css : List Value} (h : RowA w B 4 a ks.length cap css) (hk : KidsC w B ks css) (i : Nat) (hi : i < ks.length) :
 ∃ b off l a1 n1 c1 a2 n2 c2 a3 n3 c3, a = some ⟨b, off, none⟩ /\ b < B /\ NodeC w B ks[i] [.bool l, .slice a1 n1 c1, .slice a2 n2 c2, .slice a3 n3 c3] /\ w.cell? ⟨b, off + i * 4, none⟩ = some (.bool l) /\ w.cell? ⟨b, off + i * 4 + 1, none⟩ = some (.slice a1 n1 c1) /\
   w.cell? ⟨b, off + i * 4 + 2, none⟩ = some (.slice a2 n2 c2) /\ w.cell? ⟨b, off + i * 4 + 3, none⟩ = some (.slice a3 n3 c3) := by
 obtain ⟨c, hc, hall⟩ := hk.at_ i hi
 obtain ⟨l, a1, n1, c1, a2, n2, c2, a3, n3, c3, rfl⟩ := hc.form
 obtain ⟨b, off, ha, hb, hcell⟩ := h.some_ (by
  intro he
  have := hk.len
  rw [he] at this
  simp at this; omega)
 have g0 := hcell _ _ (hall 0 (by omega))
 have g1 := hcell _ _ (hall 1 (by omega))
 have g2 := hcell _ _ (hall 2 (by omega))
 have g3 := hcell _ _ (hall 3 (by omega))
 simp only [<- Nat.add_assoc, Nat.add_zero] at g0 g1 g2 g3
 exact ⟨b, off, l, a1, n1, c1, a2, n2, c2, a3, n3, c3, ha, hb, hc, g0, g1, g2, g3⟩
end Go.Redl
/- A frame by types: what is not of some types is as it was. No program in sight. -/
namespace Go.Redl
open Go.RowKit
/-- Below block B all is as it was; from there on, each block that is of none of the types that are let go is. -/
structure Spares (bad : TypeId -> Bool) (B : Nat) (w w' : World) : Prop where
 below : Below B w w'
 size : w.heap.size <= w'.heap.size
 block : ∀ (i : Nat) (cs : Array Value) (T : TypeId) (fr : Nat × Nat), w.heap[i]? = some (Obj.cells cs T fr) -> bad T = false -> w'.heap[i]? = some (Obj.cells cs T fr)
section
variable {bad : TypeId -> Bool} {B : Nat} {w w' w'' : World}
theorem Spares.refl (hB : B <= w.heap.size) : Spares bad B w w := ⟨Below.mono (Below.refl _ _) hB, Nat.le_refl _, fun _ _ _ _ h _ => h⟩
theorem Spares.trans (h : Spares bad B w w') (k : Spares bad B w' w'') : Spares bad B w w'' :=
 ⟨h.below.trans k.below, Nat.le_trans h.size k.size, fun i cs T fr hi hT => k.block i cs T fr (h.block i cs T fr hi hT) hT⟩
theorem Spares.of_below (h : Below w.heap.size w w') (hB : B <= w.heap.size) : Spares bad B w w' :=
 ⟨h.mono hB, h.size, fun i cs T fr hi _ => (h.block i (by
  rcases Nat.lt_or_ge i w.heap.size with hlt | hge
  . exact hlt
  . rw [Array.getElem?_eq_none hge] at hi; cases hi)).trans hi⟩
theorem Spares.alloc (h : Spares bad B w w') (hB : B <= w.heap.size) (o : Obj) : Spares bad B w (w'.alloc o) :=
 h.trans (Spares.of_below ((Below.refl _ _).alloc (Nat.le_refl _) o) (Nat.le_trans hB h.size))
theorem Spares.more (h : Spares bad B w w') (hb : Below w'.heap.size w' w'') (hB : B <= w.heap.size) : Spares bad B w w'' :=
 h.trans (Spares.of_below hb (Nat.le_trans hB h.size))
theorem Spares.box (h : Spares bad B w w') {i : Nat} {c : Value} {T : TypeId} (hi : w.heap[i]? = some (Obj.cells #[c] T (0, 0))) (hT : bad T = false) : w'.cell? ⟨i, 0, none⟩ = some c := by
 rw [cell_of_row _ _ _ _ _ _ (h.block i _ _ _ hi hT)]; rfl
/-- A store into a block whose type is let go. -/
theorem Spares.setCell (h : Spares bad B w w') {b off : Nat} {cs : Array Value} {T : TypeId} {fr : Nat × Nat} (hb : w'.heap[b]? = some (Obj.cells cs T fr)) (hT : bad T = true) (hB : B <= b) (v : Value) : Spares bad B w (w'.setCell ⟨b, off, none⟩ v) := by
 refine ⟨h.below.setCell (p := ⟨b, off, none⟩) hB v, by simpa [World.setCell] using h.size, fun i cs' T' fr' hi hT' => ?_⟩
 have hi' := h.block i cs' T' fr' hi hT'
 have hne : i ≠ b := by
  rintro rfl
  rw [hb] at hi'
  injection hi' with e
  injection e with e1 e2 e3
  subst e2
  rw [hT] at hT'; cases hT'
 rw [Below.heap_setCell w' ⟨b, off, none⟩ v i hne]
 exact hi'
/-- Growth of a row of a type that is let go. -/
theorem Spares.grown (h : Spares bad B w w') {base e sz n : Nat} {v : Value} {xs : List Value} (hown : w'.ownsRow base e sz v n xs) (hg : w'.grownBy w'' v.ownBlock) (hT : bad e = true) (hB : B <= base) (hBw : B <= w.heap.size) : Spares bad B w w'' := by
 refine ⟨h.below.grown hg (Nat.le_trans hBw h.size) (fun k hk => Nat.le_trans hB (hown.lt k hk).1), Nat.le_trans h.size hg.size, fun i cs T fr hi hT' => ?_⟩
 have hi' := h.block i cs T fr hi hT'
 have hlt : i < w'.heap.size := (Array.getElem?_eq_some_iff.1 hi').1
 rw [hg.block i hlt ?_]
 . exact hi'
 . intro hv
   rcases hown.2 with ⟨rfl, _⟩ | ⟨g, cap, cur, rfl, _, hgb, _⟩
   . simp [Value.ownBlock] at hv
   . simp [Value.ownBlock] at hv
     subst hv
     rw [hgb] at hi'
     injection hi' with e1
     injection e1 with e2 e3 e4
     subst e3
     rw [hT] at hT'; cases hT'
end
/-- A box of four cells, behind a frame by types. -/
theorem Spares.box4 {bad : TypeId -> Bool} {B : Nat} {w w1 : World} {c0 c1 c2 c3 : Value} {T : TypeId} (hb : Spares bad B (w.alloc (.cells #[c0, c1, c2, c3] T)) w1) (hT : bad T = false) :
 w1.cell? ⟨w.heap.size, 0, none⟩ = some c0 /\ w1.cell? ⟨w.heap.size, 1, none⟩ = some c1 /\ w1.cell? ⟨w.heap.size, 2, none⟩ = some c2 /\ w1.cell? ⟨w.heap.size, 3, none⟩ = some c3 := by
 have h := hb.block w.heap.size _ _ _ (heap_alloc_new w _) hT
 refine ⟨?_, ?_, ?_, ?_⟩ <;> (rw [cell_of_row _ _ _ _ _ _ h]; rfl)
theorem RowA.setCell {w : World} {B sz n cap : Nat} {a : Option Addr} {cs : List Value} (h : RowA w B sz a n cap cs) (p : Addr) (v : Value) (hne : ∀ b off, a = some ⟨b, off, none⟩ -> b ≠ p.block) : RowA (w.setCell p v) B sz a n cap cs := by
 refine ⟨h.len, h.le, h.max, h.one, h.nil, fun hc => ?_⟩
 obtain ⟨b, off, ha, hlt, hcell⟩ := h.some_ hc
 refine ⟨b, off, ha, hlt, fun j u hj => ?_⟩
 have h0 := hcell j u hj
 have hb := hne b off ha
 rw [<- h0]
 unfold World.cell?
 rw [Below.heap_setCell w p v b hb]
end Go.Redl
/- Trees that a call makes: which blocks they lie in; an append that tells where its row lies. No program in sight. -/
namespace Go.Redl
open Go.RowKit
/-- A slice whose cells lie in a block that ok lets in. -/
structure RowQ (w : World) (ok : Nat -> Prop) (sz : Nat) (a : Option Addr) (n cap : Nat) (cs : List Value) : Prop where
 len : cs.length = n * sz
 le : n <= cap
 max : cap <= maxLen
 one : ∀ u ∈ cs, u.oneCell' = true
 nil : a = none -> cap = 0
 some_ : cs ≠ [] -> ∃ b off, a = some ⟨b, off, none⟩ /\ ok b /\ b < w.heap.size /\ ∀ j u, cs[j]? = some u -> w.cell? ⟨b, off + j, none⟩ = some u
theorem RowQ.keep {w w' : World} {ok ok' : Nat -> Prop} {sz n cap : Nat} {a : Option Addr} {cs : List Value} (h : RowQ w ok sz a n cap cs) (hs : w.heap.size <= w'.heap.size) (hk : ∀ b, ok b -> b < w.heap.size -> w'.heap[b]? = w.heap[b]?) (ho : ∀ b, ok b -> b < w.heap.size -> ok' b) : RowQ w' ok' sz a n cap cs := by
 refine ⟨h.len, h.le, h.max, h.one, h.nil, fun hne => ?_⟩
 obtain ⟨b, off, ha, hb, hlt, hcell⟩ := h.some_ hne
 refine ⟨b, off, ha, ho b hb hlt, Nat.lt_of_lt_of_le hlt hs, fun j u hj => ?_⟩
 rw [World.cell?_of_block (a := ⟨b, off + j, none⟩) (hk b hb hlt)]
 exact hcell j u hj
theorem RowQ.row {w : World} {ok : Nat -> Prop} {sz n cap : Nat} {a : Option Addr} {cs : List Value} (h : RowQ w ok sz a n cap cs) : RowA w w.heap.size sz a n cap cs := by
 refine ⟨h.len, h.le, h.max, h.one, h.nil, fun hne => ?_⟩
 obtain ⟨b, off, ha, hb, hlt, hcell⟩ := h.some_ hne
 exact ⟨b, off, ha, hlt, hcell⟩
theorem RowQ.empty (w : World) (ok : Nat -> Prop) (sz : Nat) : RowQ w ok sz none 0 0 [] := ⟨by simp, Nat.le_refl _, Nat.zero_le _, by simp, fun _ => rfl, fun h => absurd rfl h⟩
/-- The call's own row. -/
theorem RowQ.of_own {w : World} {base e sz n : Nat} {v : Value} {cs : List Value} (h : w.ownsRow base e sz v n cs) (h1 : ∀ u ∈ cs, u.oneCell' = true) :
 ∃ a cap, v = .slice a n cap /\ RowQ w (fun b => v.ownBlock = some b) sz a n cap cs := by
 obtain ⟨a, cap, hv, hr⟩ := row_of_own h h1
 refine ⟨a, cap, hv, hr.len, hr.le, hr.max, hr.one, hr.nil, fun hne => ?_⟩
 obtain ⟨b, off, ha, hlt, hcell⟩ := hr.some_ hne
 refine ⟨b, off, ha, ?_, hlt, hcell⟩
 rcases h.2 with ⟨hn, _⟩ | ⟨g, cap', cur, hg, _⟩
 . rw [hv] at hn; injection hn with e1; subst e1; cases ha
 . rw [hv] at hg; injection hg with e1
   rw [ha] at e1
   injection e1 with e2
   injection e2 with e3
   subst e3
   rw [hv, ha]; simp [Value.ownBlock] at *
mutual
/-- A tree's cells; all that it leads to lies in blocks that ok lets in. -/
def NodeQ (w : World) (ok : Nat -> Prop) : NodeD -> List Value -> Prop
 | .mk l ps t ks, cs => ∃ ap cp at_ ct ak ck css, cs = [.bool l, .slice ap ps.length cp, .slice at_ t.length ct, .slice ak ks.length ck] /\ RowQ w ok 2 ap ps.length cp (propCells ps) /\
     RowQ w ok 1 at_ t.length ct (t.map (Value.int .i32)) /\ (∀ z ∈ t, (Lit.int .i32 z).wf = true) /\ RowQ w ok 4 ak ks.length ck css /\ KidsQ w ok ks css
def KidsQ (w : World) (ok : Nat -> Prop) : List NodeD -> List Value -> Prop
 | [], css => css = []
 | k :: ks, css => ∃ c1 c2, css = c1 ++ c2 /\ NodeQ w ok k c1 /\ KidsQ w ok ks c2
end
mutual
theorem NodeQ.keep {w w' : World} {ok ok' : Nat -> Prop} (hs : w.heap.size <= w'.heap.size) (hk : ∀ b, ok b -> b < w.heap.size -> w'.heap[b]? = w.heap[b]?) (ho : ∀ b, ok b -> b < w.heap.size -> ok' b) : ∀ (n : NodeD) (cs : List Value), NodeQ w ok n cs -> NodeQ w' ok' n cs
 | .mk l ps t ks, cs => by
   intro h
   unfold NodeQ at h ⊢
   obtain ⟨ap, cp, at_, ct, ak, ck, css, h1, h2, h3, h4, h5, h6⟩ := h
   exact ⟨ap, cp, at_, ct, ak, ck, css, h1, h2.keep hs hk ho, h3.keep hs hk ho, h4, h5.keep hs hk ho, KidsQ.keep hs hk ho ks css h6⟩
theorem KidsQ.keep {w w' : World} {ok ok' : Nat -> Prop} (hs : w.heap.size <= w'.heap.size) (hk : ∀ b, ok b -> b < w.heap.size -> w'.heap[b]? = w.heap[b]?) (ho : ∀ b, ok b -> b < w.heap.size -> ok' b) : ∀ (ks : List NodeD) (css : List Value), KidsQ w ok ks css -> KidsQ w' ok' ks css
 | [], css => by intro h; unfold KidsQ at h ⊢; exact h
 | k :: ks, css => by
   intro h
   unfold KidsQ at h ⊢
   obtain ⟨c1, c2, h1, h2, h3⟩ := h
   exact ⟨c1, c2, h1, NodeQ.keep hs hk ho k c1 h2, KidsQ.keep hs hk ho ks c2 h3⟩
end
mutual
theorem NodeQ.node {w : World} {ok : Nat -> Prop} : ∀ (n : NodeD) (cs : List Value), NodeQ w ok n cs -> NodeC w w.heap.size n cs
 | .mk l ps t ks, cs => by
   intro h
   unfold NodeQ at h
   unfold NodeC
   obtain ⟨ap, cp, at_, ct, ak, ck, css, h1, h2, h3, h4, h5, h6⟩ := h
   exact ⟨ap, cp, at_, ct, ak, ck, css, h1, h2.row, h3.row, h4, h5.row, KidsQ.kids ks css h6⟩
theorem KidsQ.kids {w : World} {ok : Nat -> Prop} : ∀ (ks : List NodeD) (css : List Value), KidsQ w ok ks css -> KidsC w w.heap.size ks css
 | [], css => by intro h; unfold KidsQ at h; unfold KidsC; exact h
 | k :: ks, css => by
   intro h
   unfold KidsQ at h
   unfold KidsC
   obtain ⟨c1, c2, h1, h2, h3⟩ := h
   exact ⟨c1, c2, h1, NodeQ.node k c1 h2, KidsQ.kids ks c2 h3⟩
end
theorem KidsQ.append {w : World} {ok : Nat -> Prop} : ∀ {ks ks' : List NodeD} {css css' : List Value}, KidsQ w ok ks css -> KidsQ w ok ks' css' -> KidsQ w ok (ks ++ ks') (css ++ css')
 | [], ks', css, css', h, h' => by unfold KidsQ at h; subst h; exact h'
 | k :: ks, ks', css, css', h, h' => by
   unfold KidsQ at h
   obtain ⟨c1, c2, rfl, h2, h3⟩ := h
   rw [List.cons_append]
   unfold KidsQ
   exact ⟨c1, c2 ++ css', by simp, h2, KidsQ.append h3 h'⟩
theorem KidsQ.one {w : World} {ok : Nat -> Prop} {k : NodeD} {c : List Value} (h : NodeQ w ok k c) : KidsQ w ok [k] c := by
 unfold KidsQ
 exact ⟨c, [], by simp, h, by unfold KidsQ; rfl⟩
/-- append(own, xs...): where the row lies behind it. -/
theorem run_own_where {P : Program} (w : World) (base : Nat) (t ty e : TypeId) (i : TypeInfo) (z : Value) (size bytes : Nat) (ht : P.underlying t = some (.slice e)) (hi : P.info? e = some i) (hz : i.zero = some z)
 (hsize : i.size = size) (hby : i.bytes = bytes) (hzs : z.cells.size = size) (hsz : 0 < size)
 (v : Value) (n : Nat) (xs : List Value) (hown : w.ownsRow base e size v n xs)
 (a : Addr) (m c : Nat) (news : List Value) (hl : news.length = m * size) (hnews : ∀ j u, news[j]? = some u -> w.cell? (a.add j) = some u) (h1 : ∀ u ∈ news, u.oneCell' = true)
 (h63 : n + m <= maxLen) (hbytes : (n + m) * bytes <= 140737488355328) (hbase : base <= w.heap.size) :
 ∃ v' w', (Builtin.append_ #[t, t] ty #[v, .slice (some a) m c]).run P w = .ok v' w' /\ w'.ownsRow base e size v' (n + m) (xs ++ news) /\ w.grownBy w' v.ownBlock /\
   (v'.ownBlock = v.ownBlock ∨ ∀ k, v'.ownBlock = some k -> w.heap.size <= k) := by
 obtain ⟨v', w', hr, h2, h3, -⟩ := run_append_own (P := P) w base t ty e i z size bytes ht hi hz hsize hby hzs hsz v n xs hown a m c news hl hnews h1 h63 hbytes hbase
 refine ⟨v', w', hr, h2, h3, ?_⟩
 rcases hown.2 with ⟨rfl, rfl⟩ | ⟨g, cap, cur, rfl, hbg, hg, hnc, hcm, hcs, htake⟩
 . have hx : xs = [] := List.eq_nil_of_length_eq_zero (by simpa using hown.1)
   subst hx
   obtain ⟨v2, w2, hr2, k2, -, -⟩ := run_append_own (P := P) w w.heap.size t ty e i z size bytes ht hi hz hsize hby hzs hsz (.slice none 0 0) 0 [] (World.ownsRow_nil _ _ _ _) a m c news hl hnews h1 h63 hbytes (Nat.le_refl _)
   rw [hr] at hr2
   cases hr2
   exact .inr fun k hk => (k2.lt k hk).1
 . subst hsize
   by_cases hroom : n + m <= cap
   . have hfit : n * i.size + news.length <= cur.size := by rw [hl, hcs, <- Nat.add_mul]; exact Nat.mul_le_mul_right _ hroom
     have hr2 := run_append_room (P := P) w t ty e i ht hi g n cap cur hg a m c news hl hnews h1 hroom hfit
     rw [hr] at hr2
     cases hr2
     exact .inl rfl
   . have holds : ∀ j u, xs[j]? = some u -> w.cell? ((⟨g, 0, none⟩ : Addr).add j) = some u := hown.cells (g := g) rfl
     have hr2 := run_append_grow (P := P) w t ty e i z ht hi hz ⟨g, 0, none⟩ n cap xs hown.1 holds a m c news hl hnews (by omega) (by unfold maxLen at h63; omega) (growslice_fits (by unfold maxLen at h63; omega) (by subst hby; exact hbytes))
     rw [hr] at hr2
     cases hr2
     exact .inr fun k hk => by
      simp [Value.ownBlock] at hk
      omega
theorem wpList_app2 {P : Program} {w : World} {ops : Array Oper} {rest : List Oper} {o : Oper} {a : Act} {Q : Exit -> Act -> World -> Prop} (hgd : o.guard = none) (s x : Operand) (t : TypeId)
 (ho : o.op = .call { callee := .builtin .append, args := #[s, x], argTypes := #[t, t] })
 (base : Nat) (e : TypeId) (z : Value) (size bytes : Nat) (ht : P.underlying t = some (.slice e)) (hi : (P.info? e).map (fun i => (i.zero, i.size, i.bytes)) = some (some z, size, bytes))
 (hzs : z.cells.size = size) (hsz : 0 < size)
 (v : Value) (n : Nat) (xs : List Value) (hs : a.eval s = v) (hown : w.ownsRow base e size v n xs)
 (ad : Addr) (m c B : Nat) (news : List Value) (hx : a.eval x = .slice (some ad) m c) (hr : RowA w B size (some ad) m c news)
 (h63 : n + m <= maxLen) (hbytes : (n + m) * bytes <= 140737488355328) (hbase : base <= w.heap.size)
 (h : ∀ v' w', w'.ownsRow base e size v' (n + m) (xs ++ news) -> w.grownBy w' v.ownBlock -> (v'.ownBlock = v.ownBlock ∨ ∀ k, v'.ownBlock = some k -> w.heap.size <= k) -> wpList P ops Q rest (a.put o.dst v') w') : wpList P ops Q (o :: rest) a w := by
 obtain ⟨i, hi', hz, hsize, hby⟩ := info_parts hi
 refine wpList_plain hgd fun K hK => ?_
 obtain ⟨v', w', hrun, h2, h3, h4⟩ := run_own_where (P := P) w base t o.type e i z size bytes ht hi' hz hsize hby hzs hsz v n xs hown ad m c news hr.len hr.cells hr.one h63 hbytes hbase
 unfold Oper.wp execOp
 simp only [ho, resolve, invoke, builtin, Sem.run_bind, Sem.run_pure, Result.andThen_ok, List.map_toArray, List.map_cons, List.map_nil, hs, hx, hrun]
 exact hK _ _ (h v' w' h2 h3 h4)
/-- What is read stays read behind one more append: the row of kids alone may be written. -/
structure Stay (w w' : World) (ok ok' : Nat -> Prop) : Prop where
 size : w.heap.size <= w'.heap.size
 block : ∀ b, ok b -> b < w.heap.size -> w'.heap[b]? = w.heap[b]?
 let_ : ∀ b, ok b -> b < w.heap.size -> ok' b
theorem stay_kids {wr w1 w2 w3 : World} {M T sz n : Nat} {kv kv' : Value} {css : List Value} (hown : wr.ownsRow M T sz kv n css) (h1 : Below wr.heap.size wr w1) (h2 : Below w1.heap.size w1 w2) (hg : w2.grownBy w3 kv.ownBlock)
 (hw : kv'.ownBlock = kv.ownBlock ∨ ∀ k, kv'.ownBlock = some k -> w2.heap.size <= k) : Stay wr w3 (fun b => M <= b /\ kv.ownBlock ≠ some b) (fun b => M <= b /\ kv'.ownBlock ≠ some b) := by
 have s1 := h1.size; have s2 := h2.size; have s3 := hg.size
 refine ⟨by omega, fun b hb hlt => ?_, fun b hb hlt => ⟨hb.1, ?_⟩⟩
 . rw [hg.block b (by omega) (fun e => hb.2 e.symm), h2.block b (by omega), h1.block b hlt]
 . rcases hw with hw | hw
   . rw [hw]; exact hb.2
   . intro e; have := hw b e; omega
theorem stay_kid {wr w1 w2 w3 : World} {M T sz n : Nat} {kv kv' : Value} {css : List Value} (hown : wr.ownsRow M T sz kv n css) (hM : M <= wr.heap.size) (h2 : Below w1.heap.size w1 w2) (hg : w2.grownBy w3 kv.ownBlock)
 (hw : kv'.ownBlock = kv.ownBlock ∨ ∀ k, kv'.ownBlock = some k -> w2.heap.size <= k) : Stay w1 w3 (fun b => wr.heap.size <= b) (fun b => M <= b /\ kv'.ownBlock ≠ some b) := by
 have s2 := h2.size; have s3 := hg.size
 have hne : ∀ b, wr.heap.size <= b -> kv.ownBlock ≠ some b := fun b hb e => by have := (hown.lt b e).2; omega
 refine ⟨by omega, fun b hb hlt => ?_, fun b hb hlt => ⟨by omega, ?_⟩⟩
 . rw [hg.block b (by omega) (fun e => hne b hb e.symm), h2.block b (by omega)]
 . rcases hw with hw | hw
   . rw [hw]; exact hne b hb
   . intro e; have := hw b e; omega
theorem RowQ.stay {w w' : World} {ok ok' : Nat -> Prop} {sz n cap : Nat} {a : Option Addr} {cs : List Value} (h : RowQ w ok sz a n cap cs) (s : Stay w w' ok ok') : RowQ w' ok' sz a n cap cs := h.keep s.size s.block s.let_
theorem NodeQ.stay {w w' : World} {ok ok' : Nat -> Prop} {n : NodeD} {cs : List Value} (h : NodeQ w ok n cs) (s : Stay w w' ok ok') : NodeQ w' ok' n cs := NodeQ.keep s.size s.block s.let_ n cs h
theorem KidsQ.stay {w w' : World} {ok ok' : Nat -> Prop} {n : List NodeD} {cs : List Value} (h : KidsQ w ok n cs) (s : Stay w w' ok ok') : KidsQ w' ok' n cs := KidsQ.keep s.size s.block s.let_ n cs h
theorem NodeQ.form {w : World} {ok : Nat -> Prop} {n : NodeD} {cs : List Value} (h : NodeQ w ok n cs) : ∃ l a1 n1 c1 a2 n2 c2 a3 n3 c3, cs = [.bool l, .slice a1 n1 c1, .slice a2 n2 c2, .slice a3 n3 c3] := (NodeQ.node n cs h).form
theorem KidsQ.onec {w : World} {ok : Nat -> Prop} {ks : List NodeD} {css : List Value} (h : KidsQ w ok ks css) : ∀ u ∈ css, u.oneCell' = true := (KidsQ.kids ks css h).one
end Go.Redl
