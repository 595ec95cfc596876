/- Parts of the proof, one behind the other: RW5, ROA, RTH, RTI, RTJ, ROB. -/
import Derived.Test.YtaopoincbigjhaaGreatDoorFC8
import Derived.Test.YtaopoincbigjhaaGreatDoorFC3
import Derived.Test.YtaopoincbigjhaaGreatDoorFC4
import Derived.Test.YtaopoincbigjhaaGreatDoorFC7
import Derived.Deep.RegionHeld3
/- Walks: node's walk, Size, Check. -/
namespace Go.Proofs.YtaopoincbigjhaaGreatDoor
open Go.RowKit Go.Redl
set_option linter.unusedVariables false

theorem env_new (W : World) (o : Obj) (cb : Nat) (caps : Array Value) : EnvAt (((W.alloc o).alloc (Obj.cells #[.func (.func cb) #[] caps] 91)).alloc (Obj.cells #[.func (.func 90) #[] #[.pointer (some ⟨W.heap.size + 1, 0, none⟩), .pointer (some ⟨W.heap.size + 1 + 1, 0, none⟩)]] 91))
    (W.heap.size + 1) (W.heap.size + 1 + 1) cb caps := by
  constructor
  · rw [Below.heap_alloc _ _ _ (by simp)]
    have h := heap_alloc_new (W.alloc o) (Obj.cells #[.func (.func cb) #[] caps] 91)
    simpa using h
  · have h := heap_alloc_new ((W.alloc o).alloc (Obj.cells #[.func (.func cb) #[] caps] 91)) (Obj.cells #[.func (.func 90) #[] #[.pointer (some ⟨W.heap.size + 1, 0, none⟩), .pointer (some ⟨W.heap.size + 1 + 1, 0, none⟩)]] 91)
    simpa using h
theorem below_three (W : World) (o1 o2 o3 : Obj) : Below W.heap.size W (((W.alloc o1).alloc o2).alloc o3) :=
  (((Below.refl _ _).alloc (Nat.le_refl _) o1).alloc (by simp) o2).alloc (by simp; omega) o3
section
variable {S : Type} {Φ : S → World → Prop} {bad : TypeId → Bool} {B cb : Nat} {caps : Array Value} {go : NodeD → Bool} {st : NodeD → S → S} {M : Nat}

set_option maxRecDepth 100000 in
set_option maxHeartbeats 2000000 in
theorem walk_c (hΦ : ∀ s W W', Φ s W → Below W.heap.size W W' → Φ s W') (hb1 : bad 91 = false) (hb2 : bad 35 = false) (hcb : ∀ args w, (callFunc cb args).run Tryz.prog w = .ok (.enter cb args) w) (hA : AskC Φ bad B cb caps go st M)
    (n : NodeD) (v : Value) (s : S) (W : World) (hM : n.wt ≤ M) (hv : NodeV W B n v) (hB : B ≤ W.heap.size) (hs : Φ s W) :
      Calls Tryz.prog 45 #[v, .func (.func cb) #[] caps] W (EachP Φ bad B W (eachS go st n s).1 (eachS go st n s).2) := by
  have hv0 := hv
  obtain ⟨l, ps, t, ks⟩ := n
  obtain ⟨ap, cp, at_, ct, ak, ck, css, rfl, -, -, -, -⟩ := hv0.open
  generalize NodeD.mk l ps t ks = n at hv hM ⊢
  have HE := fun (tb eb : Nat) (W' : World) (hE : EnvAt W' tb eb cb caps) (hW : Below W.heap.size W W') => Lib.hid (each_c (tb := tb) (eb := eb) hΦ hb1 hb2 hcb hA _ n _ s W' (Nat.le_refl _) hM (hv.keep (hW.mono hB) (Nat.le_refl _)) (Nat.le_trans hB hW.size) hE (hΦ _ _ _ hs hW))
  have HS := fun (W' w' : World) (hW : Below W.heap.size W W') (hS : Spares bad B W' w') => (Spares.of_below (bad := bad) hW hB).trans hS
  generalize eachS go st n s = r at HE ⊢
  obtain ⟨b, s'⟩ := r
  have HE := Lib.hid HE
  have HS := Lib.hid HS
  have hmf : ∀ (fn : Fn) (first cap : Array Value) (w : World), (Instr.makeFunc fn first cap).run Tryz.prog w = .ok (.func fn first cap) w := fun _ _ _ _ => rfl
  have hst := fun (W : World) (a : Addr) (fn : Fn) (first cap : Array Value) (m : Mode) => run_store Tryz.prog W a (.func fn first cap) m rfl
  clear hv0 hv hA hs hM
  go_enter Tryz.func45, Tryz.ntmps45
  go_wp2_with fail
  refine (HE.out _ _ _ (env_new W _ cb caps) (below_three _ _ _ _)).out.mono ?_
  rintro e w1 ⟨rfl, hφ, hsp⟩
  have Hφ := Lib.hid hφ; have HSp := Lib.hid (HS.out _ _ (below_three _ _ _ _) hsp)
  clear hφ hsp
  go_wp2_with fail
  go_ret
  exact ⟨rfl, Hφ.out, HSp.out⟩
end

/-- A cell of a number. -/
def CellI (T : TypeId) (b : Nat) (x : Int) (W : World) : Prop := W.heap[b]? = some (Obj.cells #[.int .i64 x] T (0, 0))
theorem CellI.keep {T : TypeId} {b : Nat} {x : Int} {W W' : World} (h : CellI T b x W) (hb : Below W.heap.size W W') : CellI T b x W' := by
  unfold CellI at *
  rw [hb.block b (Array.getElem?_eq_some_iff.1 h).1]; exact h
theorem CellI.cell {T : TypeId} {b : Nat} {x : Int} {W : World} (h : CellI T b x W) : W.cell? ⟨b, 0, none⟩ = some (.int .i64 x) ∧ W.frozen? ⟨b, 0, none⟩ = false ∧ b < W.heap.size := by
  unfold CellI at h
  exact ⟨by rw [cell_of_row _ _ _ _ _ _ h]; rfl, by simp [World.frozen?, h], (Array.getElem?_eq_some_iff.1 h).1⟩
theorem CellI.set_ {T : TypeId} {b : Nat} {x y : Int} {W : World} (h : CellI T b x W) : CellI T b y (W.setCell ⟨b, 0, none⟩ (.int .i64 y)) := by
  unfold CellI at *
  simp [World.setCell, Array.getElem?_modify, h]
/-- The sum so far. -/
def SumAt (b : Nat) (s : Nat) (W : World) : Prop := ∃ x : Int, x = wrap64 (s : Int) ∧ CellI 3 b x W
def txtLen : NodeD → Nat
  | .mk _ _ t _ => t.length
def badInt (T : TypeId) : Bool := T == 3
theorem wrap64_add (a b : Int) : wrap64 (wrap64 a + b) = wrap64 (a + b) := by
  unfold wrap64; omega
def goSize : NodeD → Bool := fun _ => true
def stSize (n : NodeD) (s : Nat) : Nat := s + (1 + txtLen n)
set_option maxRecDepth 100000 in
set_option maxHeartbeats 1000000 in
theorem size1_c (b B M : Nat) (hBb : B ≤ b) (hM : M ≤ 1000000000) : AskC (SumAt b) badInt B 66 #[.pointer (some ⟨b, 0, none⟩)] goSize stSize M := by
  intro n v s W hn hv hB hs
  have hv0 := hv
  obtain ⟨l, ps, t, ks⟩ := n
  obtain ⟨ap, cp, at_, ct, ak, ck, css, rfl, -, -, -, -⟩ := hv0.open
  have hwt : 1 + propsWt ps + t.length + wtAll ks = (NodeD.mk l ps t ks).wt := rfl
  have htl : t.length ≤ 1000000000 := by omega
  obtain ⟨x, hx, hc⟩ := hs
  obtain ⟨c1, c2, c3⟩ := hc.cell
  have Hx := Lib.hid hx
  have Hc := Lib.hid hc
  have Hst : Hid (txtLen (.mk l ps t ks) = t.length) := rfl
  clear hv0 hv hx hc hwt hn
  show Calls Tryz.prog 66 #[_, _] W _
  go_enter Tryz.func66, Tryz.ntmps66
  go_wp2_with fail
  go_ret
  refine ⟨rfl, ⟨_, ?_, (Hc.out.set_).keep ((Below.refl _ _).alloc (Nat.le_refl _) _)⟩, ?_⟩
  · show _ = wrap64 ((s + (1 + txtLen (.mk l ps t ks)) : Nat) : Int)
    rw [Hst.out, Hx.out, wrap64_add, Int.natCast_add, Int.natCast_add]; rfl
  · exact ((Spares.refl hB).setCell Hc.out rfl hBb _).alloc hB _
def badErr (T : TypeId) : Bool := T == 39
def ownN : NodeD → Int
  | .mk l ps t ks => ownE l ps t ks.length
def goCheck (n : NodeD) : Bool := ownN n == 0
def stCheck (n : NodeD) (_ : Int) : Int := ownN n
set_option maxRecDepth 100000 in
set_option maxHeartbeats 1000000 in
theorem ask_c (b B M : Nat) (hBb : B ≤ b) (hM : M ≤ 100000000) : AskC (CellI 39 b) badErr B 46 #[.pointer (some ⟨b, 0, none⟩)] goCheck stCheck M := by
  intro n v s W hn hv hB hs
  have hv0 := hv
  obtain ⟨l, ps, t, ks⟩ := n
  obtain ⟨ap, cp, at_, ct, ak, ck, css, rfl, -, -, -, -⟩ := hv0.open
  have hW1 : Below W.heap.size W (W.alloc (Obj.cells #[.bool l, .slice ap ps.length cp, .slice at_ t.length ct, .slice ak ks.length ck] 35)) := (Below.refl _ _).alloc (Nat.le_refl _) _
  have HO := Lib.hid (own_c l ps t ks _ B _ (Nat.le_trans hB hW1.size) (by omega) (hv.keep (hW1.mono hB) (Nat.le_refl _)))
  have Hst : Hid (goCheck (.mk l ps t ks) = (ownE l ps t ks.length == 0)) := rfl
  have Hst2 : Hid (stCheck (.mk l ps t ks) s = ownE l ps t ks.length) := rfl
  have HW1 := Lib.hid hW1
  have Hs := Lib.hid hs
  generalize NodeD.mk l ps t ks = n at Hst Hst2 ⊢
  show Calls Tryz.prog 46 #[.agg #[.bool l, .slice ap ps.length cp, .slice at_ t.length ct, .slice ak ks.length ck], .pointer (some ⟨b, 0, none⟩)] W _
  rw [Hst.out, Hst2.out]
  generalize ownE l ps t ks.length = x at HO ⊢
  clear hv0 hv hn hs hW1
  by_cases hx : x = 0
  · subst hx
    go_enter Tryz.func46, Tryz.ntmps46
    go_wp2_with fail
    refine HO.out.mono ?_
    rintro e w1 ⟨rfl, hbel⟩
    have Hb := Lib.hid (below_then HW1.out hbel (Nat.le_refl _))
    have Hc := Lib.hid (Hs.out.keep Hb.out)
    obtain ⟨c1, c2, c3⟩ := Hc.out.cell
    clear hbel HO
    go_wp2_with fail
    go_ret
    exact ⟨rfl, Hc.out.set_, (Spares.of_below Hb.out hB).setCell Hc.out rfl hBb _⟩
  · have hxb : (x == 0) = false := by simpa using hx
    have Hxb := Lib.hid hxb
    clear hx
    go_enter Tryz.func46, Tryz.ntmps46
    go_wp2_with fail
    refine HO.out.mono ?_
    rintro e w1 ⟨rfl, hbel⟩
    have Hb := Lib.hid (below_then HW1.out hbel (Nat.le_refl _))
    have Hc := Lib.hid (Hs.out.keep Hb.out)
    obtain ⟨c1, c2, c3⟩ := Hc.out.cell
    clear hbel HO
    go_wp2_with fail
    go_ret
    exact ⟨ret_bool Hxb.out.symm, Hc.out.set_, (Spares.of_below Hb.out hB).setCell Hc.out rfl hBb _⟩
theorem eachS_mk {S : Type} (go : NodeD → Bool) (st : NodeD → S → S) (l : Bool) (ps : List PropD) (t : List Int) (ks : List NodeD) (s : S) : eachS go st (.mk l ps t ks) s = if go (.mk l ps t ks) then kidsS go st ks (st (.mk l ps t ks) s) else (false, st (.mk l ps t ks) s) := by
  rw [eachS]
theorem kidsS_cons {S : Type} (go : NodeD → Bool) (st : NodeD → S → S) (k : NodeD) (ks : List NodeD) (s : S) : kidsS go st (k :: ks) s = if (eachS go st k s).1 then kidsS go st ks (eachS go st k s).2 else (false, (eachS go st k s).2) := by
  rw [kidsS]
mutual
theorem eachS_size : ∀ (n : NodeD) (s : Nat), eachS goSize stSize n s = (true, s + sizeN n)
  | .mk l ps t ks, s => by
    have hg : goSize (.mk l ps t ks) = true := rfl
    rw [eachS_mk, hg, if_pos rfl, kidsS_size ks]
    have : sizeN (.mk l ps t ks) = 1 + t.length + sizeK ks := by rw [sizeN]
    rw [this]
    show (true, s + (1 + t.length) + sizeK ks) = _
    congr 1; omega
theorem kidsS_size : ∀ (ks : List NodeD) (s : Nat), kidsS goSize stSize ks s = (true, s + sizeK ks)
  | [], s => by simp [kidsS, sizeK]
  | k :: ks, s => by
    rw [kidsS_cons, eachS_size k, if_pos rfl, kidsS_size ks]
    have : sizeK (k :: ks) = sizeN k + sizeK ks := by rw [sizeK]
    rw [this]
    congr 1; omega
end
theorem nodeE_mk (l : Bool) (ps : List PropD) (t : List Int) (ks : List NodeD) : nodeE (.mk l ps t ks) = if ownE l ps t ks.length ≠ 0 then ownE l ps t ks.length else kidsE ks := by rw [nodeE]
theorem kidsE_cons (k : NodeD) (ks : List NodeD) : kidsE (k :: ks) = if nodeE k ≠ 0 then nodeE k else kidsE ks := by rw [kidsE]
mutual
theorem eachS_check : ∀ (n : NodeD) (s : Int), eachS goCheck stCheck n s = (nodeE n == 0, nodeE n)
  | .mk l ps t ks, s => by
    have hg : goCheck (.mk l ps t ks) = (ownE l ps t ks.length == 0) := rfl
    have hs : stCheck (.mk l ps t ks) s = ownE l ps t ks.length := rfl
    rw [eachS_mk, hg, hs, nodeE_mk]
    by_cases h : ownE l ps t ks.length = 0
    · rw [h]; simp [kidsS_check ks]
    · rw [if_neg (by simpa using h), if_pos h]
      simp [h]
theorem kidsS_check : ∀ (ks : List NodeD), kidsS goCheck stCheck ks 0 = (kidsE ks == 0, kidsE ks)
  | [] => by rw [kidsS, kidsE]; rfl
  | k :: ks => by
    rw [kidsS_cons, eachS_check k, kidsE_cons]
    by_cases h : nodeE k = 0
    · rw [h]; simp [kidsS_check ks]
    · rw [if_neg (by simpa using h), if_pos h]
      simp [h]
end
set_option maxRecDepth 100000 in
set_option maxHeartbeats 1000000 in
theorem nsize_c (n : NodeD) (v : Value) (B : Nat) (W : World) (hn : n.wt ≤ 100000000) (hv : NodeV W B n v) (hB : B ≤ W.heap.size) :
    Calls Tryz.prog 22 #[v] W fun e w' => e = .returned (.int .i64 (sizeN n)) ∧ Below W.heap.size W w' := by
  have hv0 := hv
  obtain ⟨l, ps, t, ks⟩ := n
  obtain ⟨ap, cp, at_, ct, ak, ck, css, rfl, -, -, -, -⟩ := hv0.open
  have hsz := sizeN_le (.mk l ps t ks)
  generalize NodeD.mk l ps t ks = n at hv hn hsz ⊢
  have hW1 : Below W.heap.size W (W.alloc (Obj.cells #[.bool l, .slice ap ps.length cp, .slice at_ t.length ct, .slice ak ks.length ck] 35)) := (Below.refl _ _).alloc (Nat.le_refl _) _
  have hW2 := hW1.alloc (o := Obj.cells #[.int .i64 0] 3) (by simp)
  have hv2 := hv.keep (hW2.mono hB) hB
  have hc0 : SumAt (W.heap.size + 1) 0 ((W.alloc (Obj.cells #[.bool l, .slice ap ps.length cp, .slice at_ t.length ct, .slice ak ks.length ck] 35)).alloc (Obj.cells #[.int .i64 0] 3)) := by
    refine ⟨0, (IntWalk.wrap64_in 0 (by omega)).symm, ?_⟩
    have h := heap_alloc_new (W.alloc (Obj.cells #[.bool l, .slice ap ps.length cp, .slice at_ t.length ct, .slice ak ks.length ck] 35)) (Obj.cells #[.int .i64 0] 3)
    simpa [CellI] using h
  have HW := Lib.hid (walk_c (Φ := SumAt (W.heap.size + 1)) (bad := badInt) (M := 100000000) (fun s W W' h hb => by obtain ⟨x, h1, h2⟩ := h; exact ⟨x, h1, h2.keep hb⟩) rfl rfl (by intro args w; kernel_rfl)
    (size1_c (W.heap.size + 1) W.heap.size 100000000 (by omega) (by omega)) n _ 0 _ hn hv2 hW2.size hc0)
  rw [eachS_size, Nat.zero_add] at HW
  have hw0 : wrap64 (sizeN n : Int) = sizeN n := IntWalk.wrap64_in _ (by omega)
  have Hw0 := Lib.hid hw0
  have hmf : ∀ (fn : Fn) (first cap : Array Value) (w : World), (Instr.makeFunc fn first cap).run Tryz.prog w = .ok (.func fn first cap) w := fun _ _ _ _ => rfl
  have HW2 := Lib.hid hW2
  clear hv0 hv hsz hW1 hv2 hc0 hn hw0 hW2
  go_enter Tryz.func22, Tryz.ntmps22
  go_wp2_with fail
  refine HW.out.mono ?_
  rintro e w1 ⟨rfl, ⟨x, hx, hc⟩, hsp⟩
  rw [Hw0.out] at hx
  subst hx
  obtain ⟨c1, c2, c3⟩ := hc.cell
  have Hb := Lib.hid (HW2.out.trans hsp.below)
  clear hc hsp HW
  go_wp2_with fail
  go_ret
  exact ⟨rfl, Hb.out⟩
set_option maxRecDepth 100000 in
set_option maxHeartbeats 1000000 in
theorem ncheck_c (n : NodeD) (v : Value) (B : Nat) (W : World) (hn : n.wt ≤ 1048576) (hv : NodeV W B n v) (hB : B ≤ W.heap.size) :
    Calls Tryz.prog 11 #[v] W fun e w' => e = .returned (.int .i64 (nodeE n)) ∧ Below W.heap.size W w' := by
  have hv0 := hv
  obtain ⟨l, ps, t, ks⟩ := n
  obtain ⟨ap, cp, at_, ct, ak, ck, css, rfl, -, -, -, -⟩ := hv0.open
  have hsz := sizeN_le (.mk l ps t ks)
  generalize NodeD.mk l ps t ks = n at hv hn hsz ⊢
  have hW1 : Below W.heap.size W (W.alloc (Obj.cells #[.bool l, .slice ap ps.length cp, .slice at_ t.length ct, .slice ak ks.length ck] 35)) := (Below.refl _ _).alloc (Nat.le_refl _) _
  have HS := Lib.hid (nsize_c n _ B _ (by omega) (hv.keep (hW1.mono hB) (Nat.le_refl _)) (Nat.le_trans hB hW1.size))
  have hs2 : sizeN n ≤ 1048576 := by omega
  have HK := fun (w1 : World) (hb : Below W.heap.size W w1) => Lib.hid (walk_c (Φ := CellI 39 w1.heap.size) (bad := badErr) (M := 100000000) (fun s W W' h hb => h.keep hb) rfl rfl (by intro args w; kernel_rfl)
    (ask_c w1.heap.size w1.heap.size 100000000 (by omega) (by omega)) n _ 0 (w1.alloc (Obj.cells #[.int .i64 0] 39)) (by omega) (hv.keep ((hb.alloc hb.size _).mono hB) (Nat.le_trans hB hb.size)) (by simp) (heap_alloc_new w1 _))
  simp only [eachS_check] at HK
  have hmf : ∀ (fn : Fn) (first cap : Array Value) (w : World), (Instr.makeFunc fn first cap).run Tryz.prog w = .ok (.func fn first cap) w := fun _ _ _ _ => rfl
  clear hv0 hv hsz hW1 hn
  go_enter Tryz.func11, Tryz.ntmps11
  go_wp2_with fail
  refine HS.out.mono ?_
  rintro e w1 ⟨rfl, hbel⟩
  obtain ⟨x0, x1, x2, x3⟩ := box_keep (below_box hbel)
  have Hb1 := Lib.hid (below_unbox (below_box hbel))
  have hsz1 : W.heap.size < w1.heap.size := by have := (below_box hbel).size; simp at this; omega
  have HK1 := HK w1 Hb1.out
  clear hbel HS HK
  go_wp2_with fail
  refine HK1.out.mono ?_
  rintro e w2 ⟨rfl, hc, hsp⟩
  obtain ⟨c1, c2, c3⟩ := hc.cell
  have Hb2 := Lib.hid (Hb1.out.trans (((Below.refl w1.heap.size w1).alloc (Nat.le_refl _) (Obj.cells #[.int .i64 0] 39)).trans hsp.below |>.mono Hb1.out.size))
  clear hc hsp HK1 x0 x1 x2 x3
  go_wp2_with fail
  go_ret
  exact ⟨rfl, Hb2.out⟩
end Go.Proofs.YtaopoincbigjhaaGreatDoor
/- Plain words: operations whole; what they do with a tree; where paths go. No walk yet. -/
namespace Go.Proofs.YtaopoincbigjhaaGreatDoor
open Go.RowKit Go.Redl
set_option linter.unusedVariables false

/-- A point; a selection; an operation, whole. -/
abbrev PtD := List Int × Int
structure SelD where
  is : Bool
  an : PtD
  fo : PtD
abbrev zeroSel : SelD := ⟨false, ([], 0), ([], 0)⟩
structure OpF where
  kind : Int
  path : List Int
  dest : List Int
  pos : Int
  node : NodeD
  old : List PropD
  new : List PropD
  text : List Int
  fr : SelD
  into : SelD
/-- An operation of a repair, whole. -/
abbrev OpD.full (o : OpD) : OpF := ⟨o.kind, o.path, o.dest, o.pos, o.node, o.old, [], [], zeroSel, zeroSel⟩
def setKids : NodeD → List NodeD → NodeD
  | .mk l ps t _, ks => .mk l ps t ks
/-- A Kid put in. -/
def insK (ks : List NodeD) (i : Nat) (m : NodeD) : List NodeD := ks.take i ++ m :: ks.drop i
/-- The last number of a path. -/
abbrev lastN (p : List Int) : Int := p.getLastD 0
/-- tree.Add -/
def addN (n : NodeD) (p : List Int) (m : NodeD) : NodeD × Int :=
  if p = [] then (zeroN, 6) else match atN n p.dropLast with
  | none => (zeroN, 5)
  | some k => if leafOf k then (zeroN, 7) else if lastN p < 0 ∨ ((kidsOf k).length : Int) < lastN p then (zeroN, 8) else (putN n p.dropLast (setKids k (insK (kidsOf k) (lastN p).toNat m)), 0)
/-- tree.Cut -/
def cutN (n : NodeD) (p : List Int) : NodeD × NodeD × Int :=
  if p = [] then (zeroN, zeroN, 6) else match atN n p, atN n p.dropLast with
  | some m, some k => (putN n p.dropLast (setKids k ((kidsOf k).eraseIdx (lastN p).toNat)), m, 0)
  | _, _ => (zeroN, zeroN, 5)
/-- tree.Put -/
def putE (n : NodeD) (p : List Int) (m : NodeD) : NodeD × Int := match atN n p with
  | none => (zeroN, 5)
  | some _ => (putN n p m, 0)
def lengthN (n : NodeD) : Nat := if leafOf n then (textOf n).length else (kidsOf n).length
/-- The path ahead of one. -/
def backP (p : List Int) : List Int := p.dropLast ++ [lastN p - 1]
def joinN : NodeD → NodeD → NodeD
  | .mk l ps t ks, .mk _ _ t' ks' => .mk l ps (t ++ t') (ks ++ ks')
/-- op.merged -/
def mergedN (rest k : NodeD) (o : OpF) : NodeD × Int :=
  if o.path = [] ∨ lastN o.path ≤ 0 then (zeroN, 8) else match atN rest (backP o.path) with
  | none => (zeroN, 5)
  | some into => if leafOf into ≠ leafOf k then (zeroN, 7) else if (lengthN into : Int) ≠ o.pos then (zeroN, 8) else if propsOf k ≠ o.old then (zeroN, 9) else (putN rest (backP o.path) (joinN into k), 0)
/-- op.shaped, of the kinds that repairs have. -/
def shapedN (n : NodeD) (o : OpF) : NodeD × Int :=
  if o.kind = 1 then (if nodeE o.node ≠ 0 then (zeroN, nodeE o.node) else addN n o.path o.node)
  else if (cutN n o.path).2.2 ≠ 0 then (zeroN, (cutN n o.path).2.2)
  else if o.kind = 2 then (if sameN (cutN n o.path).2.1 o.node then ((cutN n o.path).1, 0) else (zeroN, 9))
  else if o.kind = 3 then mergedN (cutN n o.path).1 (cutN n o.path).2.1 o
  else addN (cutN n o.path).1 o.dest (cutN n o.path).2.1
/-- The fields that a kind has. -/
def fieldsOf (k : Int) : Option (List UInt8) :=
  if k = 1 ∨ k = 2 then some [112, 110] else if k = 3 then some [112, 97, 111] else if k = 4 then some [112, 97, 119] else if k = 5 then some [112, 116]
  else if k = 6 then some [112, 111, 119] else if k = 7 ∨ k = 8 then some [112, 97, 120] else if k = 9 then some [115] else none
abbrev selZ (s : SelD) : Bool := !s.is && (decide (s.an = ([], 0)) && decide (s.fo = ([], 0)))
/-- The fields that are not zero. -/
def setF (o : OpF) : List UInt8 :=
  (if 0 < o.path.length then [112] else []) ++ (if 0 < o.dest.length then [116] else []) ++ (if o.pos ≠ 0 then [97] else []) ++ (if !sameN o.node zeroN then [110] else []) ++
  (if 0 < o.old.length then [111] else []) ++ (if 0 < o.new.length then [119] else []) ++ (if 0 < o.text.length then [120] else []) ++ (if !selZ o.fr then [115] else []) ++ (if !selZ o.into then [115] else [])
/-- back.Form -/
def formN (o : OpF) : Int := match fieldsOf o.kind with
  | none => 1
  | some fs => if (setF o).all (fun f => decide (f ∈ fs)) then 0 else 1
/-- op.Apply with no selection, of the kinds that repairs have. -/
def applyN (n : NodeD) (o : OpF) : NodeD × Int :=
  if nodeE n ≠ 0 then (zeroN, nodeE n) else if leafOf n then (zeroN, 7) else if formN o ≠ 0 then (zeroN, formN o) else shapedN n o
/-- How q stands to p: 1 left of it, 2 above it, 3 it; else 0. -/
def leftB (q p : List Int) : Bool := decide (alikeN q p + 1 = q.length) && (decide (alikeN q p < p.length) && decide (q.getD (alikeN q p) 0 < p.getD (alikeN q p) 0))
def standsN (q p : List Int) : Nat := if q = [] then 0 else if q = p then 3 else if aboveB q p then 2 else if leftB q p then 1 else 0
def shiftP (p : List Int) (k : Nat) (d : Int) : List Int := p.set k (p.getD k 0 + d)
def insertedP (p q : List Int) : List Int := if standsN q p = 0 then p else shiftP p (q.length - 1) 1
end Go.Proofs.YtaopoincbigjhaaGreatDoor
/- Walks: tree.Put, and what Put, Add, Cut do with the node. -/
namespace Go.Proofs.YtaopoincbigjhaaGreatDoor
open Go.RowKit Go.Redl
set_option linter.unusedVariables false
set_option linter.unusedSimpArgs false

theorem put1_ent : ∀ args w, (callFunc 222 args).run Tryz.prog w = .ok (.enter 222 args) w := by intro args w; kernel_rfl
theorem add1_ent : ∀ args w, (callFunc 169 args).run Tryz.prog w = .ok (.enter 169 args) w := by intro args w; kernel_rfl
theorem cut1_ent : ∀ args w, (callFunc 167 args).run Tryz.prog w = .ok (.enter 167 args) w := by intro args w; kernel_rfl
theorem Cells4.facts {w : World} {b off : Nat} {cm : List Value} (h : Cells4 w b off cm) : ∃ c0 c1 c2 c3, cm = [c0, c1, c2, c3] ∧ w.cell? ⟨b, off, none⟩ = some c0 ∧ w.cell? ⟨b, off + 1, none⟩ = some c1 ∧ w.cell? ⟨b, off + 2, none⟩ = some c2 ∧ w.cell? ⟨b, off + 3, none⟩ = some c3 := by
  obtain ⟨hl, h⟩ := h
  match cm, hl with
  | [c0, c1, c2, c3], _ => exact ⟨c0, c1, c2, c3, rfl, h 0 _ rfl, h 1 _ rfl, h 2 _ rfl, h 3 _ rfl⟩
/-- Four cells put at a place. -/
theorem cells4_put {w : World} {b off : Nat} {c0 c1 c2 c3 d0 d1 d2 d3 : Value} (h0 : w.cell? ⟨b, off, none⟩ = some c0) (h1 : w.cell? ⟨b, off + 1, none⟩ = some c1) (h2 : w.cell? ⟨b, off + 2, none⟩ = some c2) (h3 : w.cell? ⟨b, off + 3, none⟩ = some c3) :
    Cells4 (w.setCells b off [d0, d1, d2, d3]) b off [d0, d1, d2, d3] := by
  refine ⟨rfl, fun j u hj => ?_⟩
  have hj4 : j < 4 := by
    rcases Nat.lt_or_ge j 4 with h | h
    · exact h
    · rw [List.getElem?_eq_none (by simpa using h)] at hj; cases hj
  have h := World.cell?_setCells_in b [d0, d1, d2, d3] off w (fun k hk => by
    match k, hk with
    | 0, _ => rw [Nat.add_zero, h0]; rfl
    | 1, _ => rw [h1]; rfl
    | 2, _ => rw [h2]; rfl
    | 3, _ => rw [h3]; rfl) j (by simpa using hj4)
  rw [h, ← List.getElem?_eq_getElem]; exact hj
theorem keeps_put {w w1 : World} {B b off lo hi : Nat} (hb : Below w.heap.size w w1) (hB : B ≤ b) (hBw : B ≤ w.heap.size) (hbw : b < w.heap.size) (vs : List Value) (hl : vs.length = 4) : Keeps w (w1.setCells b off vs) B b off lo hi := by
  refine ⟨(hb.mono hBw).grown (grown_setCells vs off w1) (Nat.le_trans hBw hb.size) (fun k e => by cases e; exact hB), fun x hx hne _ => ?_, fun o ho => ?_⟩
  · rw [(grown_setCells vs off w1).block x (Nat.lt_of_lt_of_le hx hb.size) (fun e => hne (Option.some.inj e)), hb.block x hx]
  · rw [World.cell?_setCells_out b vs off w1 ⟨b, o, none⟩ (fun _ _ => by show o < off ∨ off + vs.length ≤ o; omega)]
    exact hb.cell (p := ⟨b, o, none⟩) hbw
theorem nodeq_put {w : World} {ok : Nat → Prop} {b off : Nat} {n : NodeD} {cs vs : List Value} (h : NodeQ w ok n cs) (hne : ¬ ok b) : NodeQ (w.setCells b off vs) ok n cs :=
  NodeQ.keep (grown_setCells vs off w).size (fun x hx hlt => (grown_setCells vs off w).block x hlt (fun e => hne (by rw [← Option.some.inj e]; exact hx))) (fun _ h _ => h) n cs h
set_option maxRecDepth 100000 in
set_option maxHeartbeats 2000000 in
theorem put1_c (m' m : NodeD) (M : Nat) (e0 : Bool) (a1 a2 a3 : Option Addr) (n1 n2 n3 q1 q2 q3 : Nat) (W : World) (hM : At W M [.bool e0, .slice a1 n1 q1, .slice a2 n2 q2, .slice a3 n3 q3] 35) (hv : NodeV W W.heap.size m' (.agg #[.bool e0, .slice a1 n1 q1, .slice a2 n2 q2, .slice a3 n3 q3])) (hbig : m'.wt ≤ 100000000) :
    HowC 222 #[.pointer (some ⟨M, 0, none⟩)] W m (m', 0) := by
  intro w b off lo hi cm hbel hb hlo hhi hI hc4 hno hfz
  obtain ⟨c0, c1, c2, c3, rfl, x0, x1, x2, x3⟩ := hc4.facts
  have hMw : NodeAt w M (.bool e0) (.slice a1 n1 q1) (.slice a2 n2 q2) (.slice a3 n3 q3) := hM.kept hbel
  obtain ⟨y0, y1, y2, y3, -, -⟩ := hMw.facts
  have HC := Lib.hid (copy_c m'.wt m' _ w (Nat.le_refl _) hbig (hv.keep hbel hbel.size))
  have hbw : b < w.heap.size := World.block_lt_of_cell? w _ x0
  have f0 := hfz off; have f1 := hfz (off + 1); have f2 := hfz (off + 2); have f3 := hfz (off + 3)
  have Hx := Lib.hid (show _ ∧ _ ∧ _ ∧ _ from ⟨x0, x1, x2, x3⟩)
  have Hf := Lib.hid hfz
  clear hI hc4 hno hfz hM hv hMw x0 x1 x2 x3 f0 f1 f2 f3
  go_enter Tryz.func222, Tryz.ntmps222
  go_wp2_with fail
  refine HC.out.mono ?_
  rintro e w1 ⟨cs, rfl, hq, hb1⟩
  obtain ⟨l', p1, o1, d1, p2, o2, d2, p3, o3, d3, rfl⟩ := hq.form
  have z0 := (hb1.cell (p := ⟨b, off, none⟩) hbw).trans Hx.out.1; have z1 := (hb1.cell (p := ⟨b, off + 1, none⟩) hbw).trans Hx.out.2.1; have z2 := (hb1.cell (p := ⟨b, off + 2, none⟩) hbw).trans Hx.out.2.2.1; have z3 := (hb1.cell (p := ⟨b, off + 3, none⟩) hbw).trans Hx.out.2.2.2
  have hfr : ∀ j, w1.frozen? ⟨b, j, none⟩ = false := fun j => (hb1.frozen (p := ⟨b, j, none⟩) hbw).trans (Hf.out j)
  have f0 := hfr off; have f1 := hfr (off + 1); have f2 := hfr (off + 2); have f3 := hfr (off + 3)
  have Hb1 := Lib.hid hb1; have Hq := Lib.hid hq
  have Hz := Lib.hid (show _ ∧ _ ∧ _ ∧ _ from ⟨z0, z1, z2, z3⟩)
  clear HC hb1 hq hfr y0 y1 y2 y3
  go_wp2_with fail
  go_ret
  have hbw' := Hb1.out.size
  show HowP W.heap.size w b off lo hi (m', 0) _ (w1.setCells b off [.bool l', .slice p1 o1 d1, .slice p2 o2 d2, .slice p3 o3 d3])
  exact ⟨rfl, keeps_put Hb1.out hb hbel.size hbw _ rfl, fun _ => ⟨_, cells4_put Hz.out.1 Hz.out.2.1 Hz.out.2.2.1 Hz.out.2.2.2, NodeQ.keep (Nat.le_refl _) (fun _ _ _ => rfl) (fun x hx _ => .inr hx) _ _ (nodeq_put Hq.out (by omega))⟩⟩
end Go.Proofs.YtaopoincbigjhaaGreatDoor
/- Walks: what Cut does with the node above. -/
namespace Go.Proofs.YtaopoincbigjhaaGreatDoor
open Go.RowKit Go.Redl
set_option linter.unusedVariables false
set_option linter.unusedSimpArgs false

theorem kidsq_erase {w : World} {ok : Nat → Prop} : ∀ {ks : List NodeD} {css : List Value} {i : Nat}, KidsQ w ok ks css → i < ks.length → KidsQ w ok (ks.eraseIdx i) (css.take (i * 4) ++ css.drop ((i + 1) * 4))
  | [], css, i, h, hi => by simp at hi
  | k :: ks, css, 0, h, hi => by
    unfold KidsQ at h
    obtain ⟨c1, c2, rfl, h1, h2⟩ := h
    have hl : c1.length = 4 := (NodeQ.node _ _ h1).len
    simpa [List.drop_left' hl] using h2
  | k :: ks, css, i + 1, h, hi => by
    unfold KidsQ at h
    obtain ⟨c1, c2, rfl, h1, h2⟩ := h
    have hl : c1.length = 4 := (NodeQ.node _ _ h1).len
    have h3 := kidsq_erase (i := i) h2 (by simpa using hi)
    rw [List.eraseIdx_cons_succ]
    unfold KidsQ
    refine ⟨c1, c2.take (i * 4) ++ c2.drop ((i + 1) * 4), ?_, h1, h3⟩
    rw [List.take_append, List.drop_append, hl, List.take_of_length_le (by omega), List.drop_eq_nil_of_le (by omega), show (i + 1) * 4 - 4 = i * 4 by omega, show (i + 1 + 1) * 4 - 4 = (i + 1) * 4 by omega]
    simp
theorem kidsq_insert {w : World} {ok : Nat → Prop} {m : NodeD} {c : List Value} (hm : NodeQ w ok m c) : ∀ {ks : List NodeD} {css : List Value} {i : Nat}, KidsQ w ok ks css → i ≤ ks.length → KidsQ w ok (insK ks i m) (css.take (i * 4) ++ (c ++ css.drop (i * 4)))
  | ks, css, 0, h, hi => by
    unfold insK
    simp only [Nat.zero_mul, List.take_zero, List.drop_zero, List.nil_append]
    unfold KidsQ
    exact ⟨c, css, rfl, hm, h⟩
  | [], css, i + 1, h, hi => by simp at hi
  | k :: ks, css, i + 1, h, hi => by
    unfold KidsQ at h
    obtain ⟨c1, c2, rfl, h1, h2⟩ := h
    have hl : c1.length = 4 := (NodeQ.node _ _ h1).len
    have h3 := kidsq_insert hm (i := i) h2 (by simpa using hi)
    have e : insK (k :: ks) (i + 1) m = k :: insK ks i m := by simp [insK]
    rw [e]
    unfold KidsQ
    refine ⟨c1, c2.take (i * 4) ++ (c ++ c2.drop (i * 4)), ?_, h1, h3⟩
    rw [List.take_append, List.drop_append, hl, List.take_of_length_le (by omega), List.drop_eq_nil_of_le (by omega), show (i + 1) * 4 - 4 = i * 4 by omega]
    simp
/-- A node whose row of Kids was made another one. -/
theorem kids_changed {B : Nat} {w w2 : World} {b off lo hi mid : Nat} {l : Bool} {ps : List PropD} {t : List Int} {ap at_ ak : Option Addr} {cp ct ck : Nat} {ks ks' : List NodeD} {css' : List Value} {v' : Value}
    (hB : B ≤ b) (hBl : B ≤ lo) (hhi : hi ≤ w.heap.size) (hmid : lo ≤ mid) (hmh : mid ≤ hi) (hno : ¬ (lo ≤ b ∧ b < hi)) (hbw : b < w.heap.size) (hBw : B ≤ w.heap.size)
    (x0 : w.cell? ⟨b, off, none⟩ = some (.bool l)) (x1 : w.cell? ⟨b, off + 1, none⟩ = some (.slice ap ps.length cp)) (x2 : w.cell? ⟨b, off + 2, none⟩ = some (.slice at_ t.length ct)) (x3 : w.cell? ⟨b, off + 3, none⟩ = some (.slice ak ks.length ck))
    (h3 : RowQ w (fun x => lo ≤ x ∧ x < mid ∧ (Value.slice ak ks.length ck).ownBlock ≠ some x) 2 ap ps.length cp (propCells ps)) (h4 : RowQ w (fun x => lo ≤ x ∧ x < mid ∧ (Value.slice ak ks.length ck).ownBlock ≠ some x) 1 at_ t.length ct (t.map (Value.int .i32))) (h5 : ∀ z ∈ t, (Lit.int .i32 z).wf = true)
    (hk7 : ∀ g, (Value.slice ak ks.length ck).ownBlock = some g → lo ≤ g ∧ g < mid)
    (hown : w2.ownsRow lo 35 4 v' ks'.length css') (hq : KidsQ w2 (fun x => lo ≤ x ∧ x < hi ∨ w.heap.size ≤ x) ks' css') (hg : w.grownBy w2 (Value.slice ak ks.length ck).ownBlock) (hv' : v'.ownBlock = (Value.slice ak ks.length ck).ownBlock ∨ ∀ k, v'.ownBlock = some k → w.heap.size ≤ k)
    (hqb : ∀ x, (lo ≤ x ∧ x < hi ∨ w.heap.size ≤ x) → x ≠ b) :
    HowP B w b off lo hi (.mk l ps t ks', 0) (.returned (.int .i64 0)) (w2.setCell ⟨b, off + 3, none⟩ v') := by
  have hKb : (Value.slice ak ks.length ck).ownBlock ≠ some b := fun e => by have := hk7 b e; omega
  have hblk : ∀ x, x < w.heap.size → (Value.slice ak ks.length ck).ownBlock ≠ some x → w2.heap[x]? = w.heap[x]? := fun x hx hne => hg.block x hx (fun e => hne e.symm)
  have hcellb : ∀ o, w2.cell? ⟨b, o, none⟩ = w.cell? ⟨b, o, none⟩ := fun o => World.cell?_of_block (a := ⟨b, o, none⟩) (hblk b hbw hKb)
  refine ⟨rfl, ⟨?_, fun x hx hne hnot => ?_, fun o ho => ?_⟩, fun _ => ?_⟩
  · exact ((Below.refl B w).grown hg hBw (fun k hk => by have := hk7 k hk; omega)).setCell (p := ⟨b, off + 3, none⟩) hB _
  · rw [Below.heap_setCell w2 ⟨b, off + 3, none⟩ v' x (by show x ≠ b; exact hne)]
    refine hblk x hx (fun e => ?_)
    have := hk7 x e
    omega
  · rw [World.cell?_setCell_other _ _ _ _ (fun e => by injection e with e1 e2; omega)]
    exact hcellb o
  · obtain ⟨a', c', rfl, hr⟩ := RowQ.of_own hown hq.onec
    refine ⟨[.bool l, .slice ap ps.length cp, .slice at_ t.length ct, .slice a' ks'.length c'], ⟨rfl, fun j u hj => ?_⟩, ?_⟩
    · have hoth : ∀ o, o ≠ off + 3 → (w2.setCell ⟨b, off + 3, none⟩ (.slice a' ks'.length c')).cell? ⟨b, o, none⟩ = w.cell? ⟨b, o, none⟩ := fun o ho => by
        rw [World.cell?_setCell_other _ _ _ _ (fun e => by injection e with e1 e2; omega)]
        exact hcellb o
      match j with
      | 0 => simp at hj; subst hj; rw [hoth _ (by omega)]; exact x0
      | 1 => simp at hj; subst hj; rw [hoth _ (by omega)]; exact x1
      | 2 => simp at hj; subst hj; rw [hoth _ (by omega)]; exact x2
      | 3 =>
        simp at hj; subst hj
        exact World.cell?_setCell_same _ _ _ ((hcellb (off + 3)).trans x3)
      | j + 4 => simp at hj
    · have hset : ∀ x, x ≠ b → (w2.setCell ⟨b, off + 3, none⟩ (.slice a' ks'.length c')).heap[x]? = w2.heap[x]? := fun x hne => Below.heap_setCell w2 ⟨b, off + 3, none⟩ _ x (by show x ≠ b; exact hne)
      have hsz : w2.heap.size ≤ (w2.setCell ⟨b, off + 3, none⟩ (.slice a' ks'.length c')).heap.size := by simp [World.setCell]
      unfold NodeQ
      refine ⟨ap, cp, at_, ct, a', c', css', rfl, ?_, ?_, h5, ?_, ?_⟩
      · refine h3.keep (Nat.le_trans hg.size hsz) (fun x hx hlt => ?_) (fun x hx _ => .inl ⟨hx.1, by omega⟩)
        rw [hset x (by omega), hblk x hlt hx.2.2]
      · refine h4.keep (Nat.le_trans hg.size hsz) (fun x hx hlt => ?_) (fun x hx _ => .inl ⟨hx.1, by omega⟩)
        rw [hset x (by omega), hblk x hlt hx.2.2]
      · have hok : ∀ x, (Value.slice a' ks'.length c').ownBlock = some x → (lo ≤ x ∧ x < hi ∨ w.heap.size ≤ x) := fun x hx => by
          rcases hv' with e | e
          · rw [e] at hx; have := hk7 x hx; omega
          · exact .inr (e x hx)
        exact hr.keep hsz (fun x hx _ => hset x (hqb x (hok x hx))) (fun x hx _ => hok x hx)
      · exact KidsQ.keep hsz (fun x hx _ => hset x (hqb x hx)) (fun _ hx _ => hx) _ _ hq
end Go.Proofs.YtaopoincbigjhaaGreatDoor
/- Walks: what Cut and Add do with the node above. -/
namespace Go.Proofs.YtaopoincbigjhaaGreatDoor
open Go.RowKit Go.Redl
set_option linter.unusedVariables false
set_option linter.unusedSimpArgs false

set_option maxRecDepth 100000 in
set_option maxHeartbeats 4000000 in
theorem cut1_c (m : NodeD) (i M : Nat) (W : World) (hM : W.cell? ⟨M, 0, none⟩ = some (.int .i64 i)) (hMW : M < W.heap.size) (hi : i < (kidsOf m).length) (hn : (kidsOf m).length ≤ 100000000) :
    HowC 167 #[.pointer (some ⟨M, 0, none⟩)] W m (setKids m ((kidsOf m).eraseIdx i), 0) := by
  intro w b off lo hi_ cm hbel hb hlo hhi hI hc4 hno hfz
  obtain ⟨l, ps, t, ks⟩ := m
  simp only [kidsOf] at hi hn
  unfold NodeI at hI
  obtain ⟨mid, ap, cp, at_, ct, ak, ck, css, h1, rfl, h3, h4, h5, h6, h7, h8⟩ := hI
  have x0 := hc4.2 0 _ rfl; have x1 := hc4.2 1 _ rfl; have x2 := hc4.2 2 _ rfl; have x3 := hc4.2 3 _ rfl
  simp only [Nat.add_zero] at x0
  have hmh := KidsI.le h8
  have hone : ∀ u ∈ css, u.oneCell' = true := KidsQ.onec (KidsI.q (ok := fun _ => True) (fun _ _ _ => trivial) h8)
  have hbw : b < w.heap.size := World.block_lt_of_cell? w _ x0
  have hBw := hbel.size
  have y0 : w.cell? ⟨M, 0, none⟩ = some (.int .i64 i) := (hbel.cell (p := ⟨M, 0, none⟩) hMW).trans hM
  have hib : ((i + 1 : Nat) : Int) = ((i : Int) + 1) := by omega
  have hD := fun (W' : World) (h : W'.ownsRow lo 35 4 (.slice ak ks.length ck) ks.length css) => deln_c lo (.slice ak ks.length ck) ks.length i css W' h hone hi hn
  rw [hib] at hD
  have HD := Lib.hid hD
  clear hD hib
  have hk7 : ∀ g, (Value.slice ak ks.length ck).ownBlock = some g → lo ≤ g ∧ g < mid := fun g hg => ⟨(h6.lt g hg).1, h7 g hg⟩
  have HP := Lib.hid (fun (w2 : World) v' css' hown hq hg hv' hqb => kids_changed (B := W.heap.size) (w := w) (w2 := w2) (b := b) (off := off) (lo := lo) (hi := hi_) (mid := mid) (ks' := ks.eraseIdx i) (css' := css') (v' := v') hb hlo hhi h1 hmh hno hbw hBw x0 x1 x2 x3 h3 h4 h5 hk7 hown hq hg hv' hqb)
  have hkq := KidsI.q (ok := fun x => mid ≤ x ∧ x < hi_) (fun x hx hx2 => ⟨hx, hx2⟩) h8
  have Hkq := Lib.hid hkq; have Hk7 := Lib.hid hk7; have H6 := Lib.hid h6
  have f3 := hfz (off + 3)
  have hne : ∀ g, (Value.slice ak ks.length ck).ownBlock = some g → g ≠ b := fun g hg e => by have := hk7 g hg; omega
  have Hne := Lib.hid hne
  have hw1 : IntKind.i64.wrap ((i : Int) + 1) = (i : Int) + 1 := by rw [IntKind.wrap_i64]; omega
  have Hx3 := Lib.hid x3; have Hf3 := Lib.hid f3
  have Hno := Lib.hid hno; have Hle := Lib.hid (show lo ≤ mid ∧ mid ≤ hi_ ∧ hi_ ≤ w.heap.size from ⟨h1, hmh, hhi⟩)
  clear h1 h3 h4 h5 h6 h7 h8 hmh hone hk7 hkq hne hc4 hfz hno hM hbel hlo hhi x0 x1 x2
  go_enter Tryz.func167, Tryz.ntmps167
  go_wp2_with fail
  go_region_law (first
    | (refine step_call rfl 168 _ _ rfl deln_ent [Value.slice ak ks.length ck, .int .i64 i, .int .i64 ((i : Int) + 1)] ?_ _ (HD.out _ H6.out) ?_
       · go_simp
       rintro e w2 ⟨v', rfl, hown, hg, hv'⟩
       have hone' : ∀ u ∈ css.take (i * 4) ++ css.drop ((i + 1) * 4), u.oneCell' = true := (kidsq_erase Hkq.out hi).onec
       obtain ⟨a', c', rfl, -⟩ := row_of_own hown hone'
       refine ⟨_, rfl, ?_⟩
       have Hown := Lib.hid hown
       have Hg := Lib.hid (grown_drew.trans hg)
       have Hv' := Lib.hid hv'
       have g3 : w2.cell? ⟨b, off + 3, none⟩ = some (.slice ak ks.length ck) := (World.cell?_of_block (a := ⟨b, off + 3, none⟩) (Hg.out.block b hbw (fun e => Hne.out b e.symm rfl))).trans Hx3.out
       have k3 : w2.frozen? ⟨b, off + 3, none⟩ = false := (World.frozen?_of_block (a := ⟨b, off + 3, none⟩) (Hg.out.block b hbw (fun e => Hne.out b e.symm rfl))).trans Hf3.out
       clear hown hg hv'))
  all_goals
    go_wp2_with fail
    go_ret
    have hl : (ks.eraseIdx i).length = ks.length - 1 := by rw [List.length_eraseIdx, if_pos hi]
    have hown := Hown.out
    have hv := Hv'.out
    rw [← hl] at hown hv
    have hq2 := KidsQ.keep (ok' := fun x => lo ≤ x ∧ x < hi_ ∨ w.heap.size ≤ x) Hg.out.size (fun x hx hlt => Hg.out.block x hlt (fun e => by have := (Hk7.out x e.symm).2; have := hx.1; omega)) (fun x hx _ => .inl ⟨by have := Hle.out; have := hx.1; omega, hx.2⟩) _ _ Hkq.out
    have h := HP.out w2 _ _ hown (kidsq_erase hq2 hi) Hg.out hv (fun x hx e => by subst e; rcases hx with hx | hx; exact Hno.out hx; omega)
    rw [hl] at h
    exact h
theorem one_ins {css c : List Value} {k : Nat} (h1 : ∀ u ∈ css, u.oneCell' = true) (h2 : ∀ u ∈ c, u.oneCell' = true) : ∀ u ∈ css.take k ++ (c ++ css.drop k), u.oneCell' = true := by
  intro u hu
  rcases List.mem_append.1 hu with hu | hu
  · exact h1 u (List.mem_of_mem_take hu)
  · rcases List.mem_append.1 hu with hu | hu
    · exact h2 u hu
    · exact h1 u (List.mem_of_mem_drop hu)
/-- What Add does with the node above. -/
def addR (i : Int) (m k : NodeD) : NodeD × Int := if leafOf k then (zeroN, 7) else if i < 0 ∨ ((kidsOf k).length : Int) < i then (zeroN, 8) else (setKids k (insK (kidsOf k) i.toNat m), 0)
theorem keeps_refl {w : World} {B b off lo hi : Nat} (hB : Below B w w) : Keeps w w B b off lo hi := ⟨hB, fun _ _ _ _ => rfl, fun _ _ => rfl⟩
theorem keeps_drewN {w : World} {B b off lo hi : Nat} (hB : Below B w w) (q : Nat) : Keeps w (w.drewN q) B b off lo hi := ⟨below_drewN hB q, fun _ _ _ _ => rfl, fun _ _ => rfl⟩
set_option maxRecDepth 100000 in
set_option maxHeartbeats 4000000 in
theorem add1_no (m' m : NodeD) (i : Int) (M N : Nat) (W : World) (hM : W.cell? ⟨M, 0, none⟩ = some (.int .i64 i)) (hMW : M < W.heap.size) (he : (addR i m' m).2 ≠ 0) :
    HowC 169 #[.pointer (some ⟨M, 0, none⟩), .pointer (some ⟨N, 0, none⟩)] W m (addR i m' m) := by
  intro w b off lo hi_ cm hbel hb hlo hhi hI hc4 hno hfz
  obtain ⟨l, ps, t, ks⟩ := m
  unfold NodeI at hI
  obtain ⟨mid, ap, cp, at_, ct, ak, ck, css, h1, rfl, h3, h4, h5, h6, h7, h8⟩ := hI
  have x0 := hc4.2 0 _ rfl; have x3 := hc4.2 3 _ rfl
  simp only [Nat.add_zero] at x0
  have y0 : w.cell? ⟨M, 0, none⟩ = some (.int .i64 i) := (hbel.cell (p := ⟨M, 0, none⟩) hMW).trans hM
  have HB := Lib.hid (Below.refl W.heap.size w)
  have HE := Lib.hid he
  clear h1 h3 h4 h5 h6 h7 h8 hc4 hfz hno hM hbel hlo hhi he hb
  cases l with
  | true =>
    have hr : addR i m' (.mk true ps t ks) = (zeroN, 7) := rfl
    rw [hr]
    clear hr
    go_enter Tryz.func169, Tryz.ntmps169
    go_wp2_with fail
    go_ret
    exact ⟨rfl, keeps_refl (HB.out), fun h => by cases h⟩
  | false =>
    by_cases hlt : i < 0
    · have hr : addR i m' (.mk false ps t ks) = (zeroN, 8) := by unfold addR; rw [if_neg (by simp [leafOf]), if_pos (.inl hlt)]
      rw [hr]
      have hd : decide (i < 0) = true := by simpa using hlt
      clear hr
      go_enter Tryz.func169, Tryz.ntmps169
      go_wp2_with fail
      go_quiet (fail)
      go_wp2_with fail
      all_goals go_ret
      all_goals exact ⟨rfl, keeps_drewN HB.out _, fun h => by cases h⟩
    · by_cases hgt : (ks.length : Int) < i
      · have hr : addR i m' (.mk false ps t ks) = (zeroN, 8) := by unfold addR; rw [if_neg (by simp [leafOf]), if_pos (.inr hgt)]
        rw [hr]
        have hd : decide (i < 0) = false := by simpa using hlt
        have hd2 : decide ((ks.length : Int) < i) = true := by simpa using hgt
        clear hr
        go_enter Tryz.func169, Tryz.ntmps169
        go_wp2_with fail
        go_quiet (fail)
        go_wp2_with fail
        all_goals go_ret
        all_goals exact ⟨rfl, keeps_drewN HB.out _, fun h => by cases h⟩
      · exfalso
        refine HE.out ?_
        unfold addR
        rw [if_neg (by simp [leafOf]), if_neg (by simp only [kidsOf]; omega)]
set_option maxRecDepth 100000 in
set_option maxHeartbeats 4000000 in
theorem add1_ok (m' m : NodeD) (i M N : Nat) (e0 : Bool) (a1 a2 a3 : Option Addr) (n1 n2 n3 q1 q2 q3 : Nat) (W : World) (hM : W.cell? ⟨M, 0, none⟩ = some (.int .i64 i)) (hMW : M < W.heap.size) (hN : At W N [.bool e0, .slice a1 n1 q1, .slice a2 n2 q2, .slice a3 n3 q3] 35) (hv : NodeV W W.heap.size m' (.agg #[.bool e0, .slice a1 n1 q1, .slice a2 n2 q2, .slice a3 n3 q3])) (hbig : m'.wt ≤ 100000000)
    (hl : leafOf m = false) (hi : i ≤ (kidsOf m).length) (hn : (kidsOf m).length ≤ 100000000) :
    HowC 169 #[.pointer (some ⟨M, 0, none⟩), .pointer (some ⟨N, 0, none⟩)] W m (setKids m (insK (kidsOf m) i m'), 0) := by
  intro w b off lo hi_ cm hbel hb hlo hhi hI hc4 hno hfz
  obtain ⟨l, ps, t, ks⟩ := m
  simp only [kidsOf] at hi hn
  have : l = false := hl
  subst this
  unfold NodeI at hI
  obtain ⟨mid, ap, cp, at_, ct, ak, ck, css, h1, rfl, h3, h4, h5, h6, h7, h8⟩ := hI
  have x0 := hc4.2 0 _ rfl; have x1 := hc4.2 1 _ rfl; have x2 := hc4.2 2 _ rfl; have x3 := hc4.2 3 _ rfl
  simp only [Nat.add_zero] at x0
  have hmh := KidsI.le h8
  have hone : ∀ u ∈ css, u.oneCell' = true := KidsQ.onec (KidsI.q (ok := fun _ => True) (fun _ _ _ => trivial) h8)
  have hbw : b < w.heap.size := World.block_lt_of_cell? w _ x0
  have hBw := hbel.size
  have hMw : M < w.heap.size := by omega
  have y0 : w.cell? ⟨M, 0, none⟩ = some (.int .i64 i) := (hbel.cell (p := ⟨M, 0, none⟩) hMW).trans hM
  have hNw : NodeAt w N (.bool e0) (.slice a1 n1 q1) (.slice a2 n2 q2) (.slice a3 n3 q3) := hN.kept hbel
  obtain ⟨z0, z1, z2, z3, -, -⟩ := hNw.facts
  have HC := Lib.hid (fun (w' : World) (h : Below w.heap.size w w') => copy_c m'.wt m' _ w' (Nat.le_refl _) hbig (hv.keep (hbel.trans (h.mono hBw)) (hbel.trans (h.mono hBw)).size))
  have hk7 : ∀ g, (Value.slice ak ks.length ck).ownBlock = some g → lo ≤ g ∧ g < mid := fun g hg => ⟨(h6.lt g hg).1, h7 g hg⟩
  have HI := Lib.hid (fun (w2 : World) (h : Below w.heap.size w w2) (l' : Bool) (p1 p2 p3 : Option Addr) (o1 o2 o3 d1 d2 d3 : Nat) => insn_c lo (.slice ak ks.length ck) ks.length i css w2.heap.size [.bool l', .slice p1 o1 d1, .slice p2 o2 d2, .slice p3 o3 d3] (w2.alloc (Obj.cells #[.bool l', .slice p1 o1 d1, .slice p2 o2 d2, .slice p3 o3 d3] 35)) (own_keep (own_keep h6 h) (one_below _ _)) hone hi hn (by have := h.size; simp; omega) (At.fresh _ _ _) rfl (by intro u hu; simp only [List.mem_cons, List.not_mem_nil, or_false] at hu; rcases hu with rfl | rfl | rfl | rfl <;> rfl) (fun e => by have := (hk7 _ e).2; have := h.size; omega))
  have HP := Lib.hid (fun (w2 : World) v' css' hown hq hg hv' hqb => kids_changed (B := W.heap.size) (w := w) (w2 := w2) (b := b) (off := off) (lo := lo) (hi := hi_) (mid := mid) (ks' := insK ks i m') (css' := css') (v' := v') hb hlo hhi h1 hmh hno hbw hBw x0 x1 x2 x3 h3 h4 h5 hk7 hown hq hg hv' hqb)
  have hkq := KidsI.q (ok := fun x => mid ≤ x ∧ x < hi_) (fun x hx hx2 => ⟨hx, hx2⟩) h8
  have Hkq := Lib.hid hkq; have Hk7 := Lib.hid hk7
  have f3 := hfz (off + 3)
  have hne : ∀ g, (Value.slice ak ks.length ck).ownBlock = some g → g ≠ b := fun g hg e => by have := hk7 g hg; omega
  have Hone := Lib.hid hone
  have Hne := Lib.hid hne
  have Hx3 := Lib.hid x3; have Hf3 := Lib.hid f3; have Hy0 := Lib.hid y0
  have Hno := Lib.hid hno; have Hle := Lib.hid (show lo ≤ mid ∧ mid ≤ hi_ ∧ hi_ ≤ w.heap.size from ⟨h1, hmh, hhi⟩)
  have hd : decide ((i : Int) < 0) = false := by simp
  have hd2 : decide ((ks.length : Int) < (i : Int)) = false := by simp; omega
  have hlen : (insK ks i m').length = ks.length + 1 := by unfold insK; simp; omega
  have Hlen := Lib.hid hlen
  clear h1 h3 h4 h5 h6 h7 h8 hmh hone hk7 hkq hne hc4 hfz hno hM hbel hlo hhi x1 x2 hN hv hNw hlen
  go_enter Tryz.func169, Tryz.ntmps169
  go_wp2_with fail
  go_quiet (fail)
  go_wp2_with fail
  go_region_law (first
    | (refine step_call rfl 59 _ _ rfl copy_ent [.agg #[.bool e0, .slice a1 n1 q1, .slice a2 n2 q2, .slice a3 n3 q3]] ?_ _ (HC.out _ ?_) ?_
       · go_simp
       · exact (below_drewN (Below.refl _ _) _).drew
       rintro e w2 ⟨cs, rfl, hq, hb2⟩
       obtain ⟨l', p1, o1, d1, p2, o2, d2, p3, o3, d3, rfl⟩ := hq.form
       refine ⟨_, rfl, ?_⟩
       have hb2' := ((below_drewN (Below.refl w.heap.size w) nq).drew).trans hb2
       have Hb2 := Lib.hid hb2'; have Hq := Lib.hid hq
       have g3 : w2.cell? ⟨b, off + 3, none⟩ = some (.slice ak ks.length ck) := (hb2'.cell (p := ⟨b, off + 3, none⟩) hbw).trans Hx3.out
       have g0 : w2.cell? ⟨M, 0, none⟩ = some (.int .i64 i) := (hb2'.cell (p := ⟨M, 0, none⟩) hMw).trans Hy0.out
       have gb : b < w2.heap.size := Nat.lt_of_lt_of_le hbw hb2'.size
       have gM : M < w2.heap.size := Nat.lt_of_lt_of_le hMw hb2'.size
       clear hb2 hb2' hq)
    | (refine step_call rfl 170 _ _ rfl insn_ent [Value.slice ak ks.length ck, .int .i64 i, .slice (some ⟨w2.heap.size, 0, none⟩) 1 1] ?_ _ (HI.out w2 Hb2.out l' p1 p2 p3 o1 o2 o3 d1 d2 d3) ?_
       · go_simp
       rintro e w4 ⟨v', rfl, hown, hg, hv'⟩
       have hone' := one_ins (k := i * 4) Hone.out (NodeQ.node _ _ Hq.out).one
       obtain ⟨a', c', rfl, -⟩ := row_of_own hown hone'
       refine ⟨_, rfl, ?_⟩
       have Hown := Lib.hid hown
       have Hg := Lib.hid hg
       have Hv' := Lib.hid hv'
       have Hg4 := Lib.hid (((grown_of_below (Hb2.out.trans ((one_below w2 (Obj.cells #[.bool l', .slice p1 o1 d1, .slice p2 o2 d2, .slice p3 o3 d3] 35)).mono Hb2.out.size)))).trans hg)
       have g3' : w4.cell? ⟨b, off + 3, none⟩ = some (.slice ak ks.length ck) := (World.cell?_of_block (a := ⟨b, off + 3, none⟩) (Hg4.out.block b hbw (fun e => Hne.out b e.symm rfl))).trans Hx3.out
       have k3' : w4.frozen? ⟨b, off + 3, none⟩ = false := (World.frozen?_of_block (a := ⟨b, off + 3, none⟩) (Hg4.out.block b hbw (fun e => Hne.out b e.symm rfl))).trans Hf3.out
       clear hown hg hv'))
  all_goals
    go_wp2_with fail
    go_ret
    have hown := Hown.out
    have hv := Hv'.out
    rw [← Hlen.out] at hown hv
    have hne4 : ∀ x, ((lo ≤ x ∧ x < hi_) ∧ mid ≤ x ∨ w.heap.size ≤ x) → (Value.slice ak ks.length ck).ownBlock ≠ some x := fun x hx e => by have := (Hk7.out x e).2; have := Hle.out; omega
    have hq2 := KidsQ.keep (ok' := fun x => lo ≤ x ∧ x < hi_ ∨ w.heap.size ≤ x) Hg4.out.size (fun x hx hlt => Hg4.out.block x hlt (fun e => by have := (Hk7.out x e.symm).2; have := hx.1; omega)) (fun x hx _ => .inl ⟨by have := Hle.out; have := hx.1; omega, hx.2⟩) _ _ Hkq.out
    have hm2 := NodeQ.keep (w' := w4) (ok' := fun x => lo ≤ x ∧ x < hi_ ∨ w.heap.size ≤ x) (by have := Hg.out.size; simp at this; omega) (fun x hx hlt => (Hg.out.block x (by simp; omega) (fun e => by have := (Hk7.out x e.symm).2; have := Hle.out; have hx' : w.heap.size ≤ x := hx; omega)).trans (Lib.alloc_old _ _ _ hlt)) (fun x hx _ => .inr hx) _ _ Hq.out
    have h := HP.out w4 _ _ hown (kidsq_insert hm2 hq2 hi) Hg4.out (by rcases hv with e | e; exact .inl e; exact .inr fun k hk => by have := e k hk; have := Hb2.out.size; simp at *; omega) (fun x hx e => by subst e; rcases hx with hx | hx; exact Hno.out hx; omega)
    rw [Hlen.out] at h
    exact h
end Go.Proofs.YtaopoincbigjhaaGreatDoor
/- Plain laws: one node of a tree changed. -/
namespace Go.Proofs.YtaopoincbigjhaaGreatDoor
open Go.RowKit Go.Redl
set_option linter.unusedVariables false

theorem atN_cons_some {n m : NodeD} {i : Int} {p : List Int} (h : atN n (i :: p) = some m) : ∃ j : Nat, i = (j : Int) ∧ ∃ hj : j < (kidsOf n).length, atN (kidsOf n)[j] p = some m := by
  unfold atN at h
  split at h
  · rename_i h0
    obtain ⟨j, rfl⟩ : ∃ j : Nat, i = j := ⟨i.toNat, by omega⟩
    rw [Int.toNat_natCast] at h
    by_cases hj : j < (kidsOf n).length
    · rw [List.getElem?_eq_getElem hj] at h
      exact ⟨j, rfl, hj, h⟩
    · rw [List.getElem?_eq_none (by omega)] at h
      cases h
  · cases h
theorem atN_cons {n : NodeD} {j : Nat} {p : List Int} (hj : j < (kidsOf n).length) : atN n ((j : Int) :: p) = atN (kidsOf n)[j] p := by
  conv => lhs; unfold atN
  rw [if_pos (by omega), Int.toNat_natCast, List.getElem?_eq_getElem hj]
theorem putN_mk (l : Bool) (ps : List PropD) (t : List Int) (ks : List NodeD) (i : Int) (p : List Int) (m : NodeD) : putN (.mk l ps t ks) (i :: p) m = .mk l ps t (ks.set i.toNat (putN (ks.getD i.toNat (.mk false [] [] [])) p m)) := by rw [putN]
theorem atN_step (n : NodeD) (i : Int) (p : List Int) : atN n (i :: p) = if 0 ≤ i then (match (kidsOf n)[i.toNat]? with | some k => atN k p | none => none) else none := by
  conv => lhs; unfold atN
  rfl
theorem putN_cons {n m : NodeD} {j : Nat} {p : List Int} (hj : j < (kidsOf n).length) : putN n ((j : Int) :: p) m = setKids n ((kidsOf n).set j (putN (kidsOf n)[j] p m)) := by
  obtain ⟨l, ps, t, ks⟩ := n
  simp only [kidsOf] at hj ⊢
  rw [putN_mk, Int.toNat_natCast]
  simp [List.getD, List.getElem?_eq_getElem hj, setKids]
theorem kids_setKids (n : NodeD) (ks : List NodeD) : kidsOf (setKids n ks) = ks := by cases n; rfl
theorem leaf_setKids (n : NodeD) (ks : List NodeD) : leafOf (setKids n ks) = leafOf n := by cases n; rfl
theorem setKids_setKids (n : NodeD) (a b : List NodeD) : setKids (setKids n a) b = setKids n b := by cases n; rfl
theorem setKids_self (n : NodeD) : setKids n (kidsOf n) = n := by cases n; rfl
theorem atN_append : ∀ (p q : List Int) (n : NodeD), atN n (p ++ q) = (atN n p).bind (fun k => atN k q)
  | [], q, n => by simp [atN]
  | i :: p, q, n => by
    rw [List.cons_append, atN_step n i (p ++ q), atN_step n i p]
    split
    · cases (kidsOf n)[i.toNat]? with
      | none => rfl
      | some k => exact atN_append p q k
    · rfl
theorem atN_put : ∀ (p : List Int) (n k k' : NodeD), atN n p = some k → atN (putN n p k') p = some k'
  | [], n, k, k', h => by simp [putN, atN]
  | i :: p, n, k, k', h => by
    obtain ⟨j, rfl, hj, h2⟩ := atN_cons_some h
    rw [putN_cons hj]
    have hj2 : j < (kidsOf (setKids n ((kidsOf n).set j (putN (kidsOf n)[j] p k')))).length := by rw [kids_setKids]; simpa using hj
    rw [atN_cons hj2]
    simp only [kids_setKids, List.getElem_set_self]
    exact atN_put p _ k k' h2
theorem putN_put : ∀ (p : List Int) (n k a b : NodeD), atN n p = some k → putN (putN n p a) p b = putN n p b
  | [], n, k, a, b, h => by simp [putN]
  | i :: p, n, k, a, b, h => by
    obtain ⟨j, rfl, hj, h2⟩ := atN_cons_some h
    rw [putN_cons hj, putN_cons hj]
    have hj2 : j < (kidsOf (setKids n ((kidsOf n).set j (putN (kidsOf n)[j] p a)))).length := by rw [kids_setKids]; simpa using hj
    rw [putN_cons hj2, setKids_setKids]
    simp only [kids_setKids, List.getElem_set_self, List.set_set]
    rw [putN_put p _ k a b h2]
theorem putN_append : ∀ (p q : List Int) (n k m : NodeD), atN n p = some k → putN n (p ++ q) m = putN n p (putN k q m)
  | [], q, n, k, m, h => by
    have e : n = k := by simpa [atN] using h
    subst e
    simp [putN]
  | i :: p, q, n, k, m, h => by
    obtain ⟨j, rfl, hj, h2⟩ := atN_cons_some h
    rw [List.cons_append, putN_cons hj, putN_cons hj, putN_append p q _ k m h2]
theorem putN_same : ∀ (p : List Int) (n k : NodeD), atN n p = some k → putN n p k = n
  | [], n, k, h => by
    have e : n = k := by simpa [atN] using h
    subst e
    simp [putN]
  | i :: p, n, k, h => by
    obtain ⟨j, rfl, hj, h2⟩ := atN_cons_some h
    rw [putN_cons hj, putN_same p _ k h2, List.set_getElem_self, setKids_self]
theorem leaf_put (p : List Int) (n k k' : NodeD) (h : atN n p = some k) (hl : leafOf k' = leafOf k) : leafOf (putN n p k') = leafOf n := by
  cases p with
  | nil =>
    have e : n = k := by simpa [atN] using h
    subst e
    simpa [putN] using hl
  | cons i p =>
    obtain ⟨j, rfl, hj, h2⟩ := atN_cons_some h
    rw [putN_cons hj, leaf_setKids]
theorem kidsE_all : ∀ {ks : List NodeD}, kidsE ks = 0 ↔ ∀ k ∈ ks, nodeE k = 0
  | [] => by simp [kidsE]
  | k :: ks => by
    rw [kidsE_cons]
    have := kidsE_all (ks := ks)
    constructor
    · intro h
      split at h
      · contradiction
      · rename_i h0
        simp only [ne_eq, Decidable.not_not] at h0
        intro x hx
        rcases List.mem_cons.1 hx with rfl | hx
        · exact h0
        · exact this.1 h x hx
    · intro h
      rw [h k (by simp)]
      simp only [ne_eq, not_true, if_false]
      exact this.2 fun x hx => h x (by simp [hx])
theorem nodeE_zero {l : Bool} {ps : List PropD} {t : List Int} {ks : List NodeD} : nodeE (.mk l ps t ks) = 0 ↔ ownE l ps t ks.length = 0 ∧ ∀ k ∈ ks, nodeE k = 0 := by
  rw [nodeE_mk]
  split
  · rename_i h; simp [h]
  · rename_i h
    simp only [ne_eq, Decidable.not_not] at h
    rw [kidsE_all]
    simp [h]
theorem ownE_zero {l : Bool} {ps : List PropD} {t : List Int} {m : Nat} : ownE l ps t m = 0 ↔ propsE ps = 0 ∧ (l = true → m = 0) ∧ (l = false → t = []) ∧ checkE t = 0 := by
  unfold ownE
  by_cases h : propsE ps = 0
  · simp only [h, ne_eq, not_true, if_false, true_and]
    cases l <;> simp
    · by_cases ht : t = []
      · subst ht; simp
      · have : 0 < t.length := by cases t with
          | nil => exact absurd rfl ht
          | cons => simp
        simp [ht, this]
    · by_cases hm : m = 0
      · subst hm; simp
      · simp [hm, Nat.pos_of_ne_zero hm]
  · simp [h]
theorem nodeE_at : ∀ (p : List Int) (n k : NodeD), nodeE n = 0 → atN n p = some k → nodeE k = 0
  | [], n, k, h, ha => by
    have e : n = k := by simpa [atN] using ha
    subst e; exact h
  | i :: p, n, k, h, ha => by
    obtain ⟨j, rfl, hj, h2⟩ := atN_cons_some ha
    obtain ⟨l, ps, t, ks⟩ := n
    exact nodeE_at p _ k ((nodeE_zero.1 h).2 _ (List.getElem_mem hj)) h2
theorem nodeE_put : ∀ (p : List Int) (n k k' : NodeD), nodeE n = 0 → atN n p = some k → nodeE k' = 0 → nodeE (putN n p k') = 0
  | [], n, k, k', h, ha, hk => by simpa [putN] using hk
  | i :: p, n, k, k', h, ha, hk => by
    obtain ⟨j, rfl, hj, h2⟩ := atN_cons_some ha
    rw [putN_cons hj]
    obtain ⟨l, ps, t, ks⟩ := n
    obtain ⟨h3, h4⟩ := nodeE_zero.1 h
    simp only [kidsOf, setKids] at hj h2 ⊢
    refine nodeE_zero.2 ⟨by rw [List.length_set]; exact h3, fun x hx => ?_⟩
    rcases List.mem_or_eq_of_mem_set hx with hx | rfl
    · exact h4 x hx
    · exact nodeE_put p _ k k' (h4 _ (List.getElem_mem hj)) h2 hk
theorem sizeK_set : ∀ (ks : List NodeD) (j : Nat) (hj : j < ks.length) (m : NodeD), sizeK (ks.set j m) + sizeN ks[j] = sizeK ks + sizeN m
  | k :: ks, 0, hj, m => by simp [sizeK]; omega
  | k :: ks, j + 1, hj, m => by
    have := sizeK_set ks j (by simpa using hj) m
    simp [sizeK] at this ⊢; omega
theorem sizeN_setKids (n : NodeD) (ks : List NodeD) : sizeN (setKids n ks) + sizeK (kidsOf n) = sizeN n + sizeK ks := by
  obtain ⟨l, ps, t, ks0⟩ := n
  simp [sizeN, setKids, kidsOf]; omega
theorem sizeN_put : ∀ (p : List Int) (n k k' : NodeD), atN n p = some k → sizeN (putN n p k') + sizeN k = sizeN n + sizeN k'
  | [], n, k, k', ha => by
    have e : n = k := by simpa [atN] using ha
    subst e
    simp only [putN]; omega
  | i :: p, n, k, k', ha => by
    obtain ⟨j, rfl, hj, h2⟩ := atN_cons_some ha
    have h3 := sizeN_put p _ k k' h2
    have h4 := sizeK_set (kidsOf n) j hj (putN (kidsOf n)[j] p k')
    have h5 := sizeN_setKids n ((kidsOf n).set j (putN (kidsOf n)[j] p k'))
    rw [putN_cons hj]; omega
theorem wtAll_set : ∀ (ks : List NodeD) (j : Nat) (hj : j < ks.length) (m : NodeD), wtAll (ks.set j m) + ks[j].wt = wtAll ks + m.wt
  | k :: ks, 0, hj, m => by simp [wtAll]; omega
  | k :: ks, j + 1, hj, m => by
    have := wtAll_set ks j (by simpa using hj) m
    simp [wtAll] at this ⊢; omega
theorem wt_setKids (n : NodeD) (ks : List NodeD) : (setKids n ks).wt + wtAll (kidsOf n) = n.wt + wtAll ks := by
  obtain ⟨l, ps, t, ks0⟩ := n
  simp [NodeD.wt, setKids, kidsOf]; omega
theorem wt_put : ∀ (p : List Int) (n k k' : NodeD), atN n p = some k → (putN n p k').wt + k.wt = n.wt + k'.wt
  | [], n, k, k', ha => by
    have e : n = k := by simpa [atN] using ha
    subst e
    simp only [putN]; omega
  | i :: p, n, k, k', ha => by
    obtain ⟨j, rfl, hj, h2⟩ := atN_cons_some ha
    have h3 := wt_put p _ k k' h2
    have h4 := wtAll_set (kidsOf n) j hj (putN (kidsOf n)[j] p k')
    have h5 := wt_setKids n ((kidsOf n).set j (putN (kidsOf n)[j] p k'))
    rw [putN_cons hj]; omega
theorem last_snoc (p : List Int) (i : Int) : lastN (p ++ [i]) = i := by simp [lastN]
theorem drop_snoc (p : List Int) (i : Int) : (p ++ [i]).dropLast = p := by simp
theorem atN_snoc {n k : NodeD} {p : List Int} {i : Nat} (h : atN n p = some k) (hi : i < (kidsOf k).length) : atN n (p ++ [(i : Int)]) = some (kidsOf k)[i] := by
  rw [atN_append, h]
  show atN k [(i : Int)] = _
  rw [atN_cons hi]
  rfl
theorem addN_kid {n k m : NodeD} {p : List Int} {i : Nat} (h : atN n p = some k) (hl : leafOf k = false) (hi : i ≤ (kidsOf k).length) : addN n (p ++ [(i : Int)]) m = (putN n p (setKids k (insK (kidsOf k) i m)), 0) := by
  unfold addN
  rw [if_neg (by simp), drop_snoc, h]
  simp only [hl, last_snoc, Bool.false_eq_true, if_false, Int.toNat_natCast]
  rw [if_neg (by omega)]
theorem cutN_kid {n k : NodeD} {p : List Int} {i : Nat} (h : atN n p = some k) (hi : i < (kidsOf k).length) : cutN n (p ++ [(i : Int)]) = (putN n p (setKids k ((kidsOf k).eraseIdx i)), (kidsOf k)[i], 0) := by
  unfold cutN
  rw [if_neg (by simp), drop_snoc, atN_snoc h hi, h]
  simp only [last_snoc, Int.toNat_natCast]
end Go.Proofs.YtaopoincbigjhaaGreatDoor
