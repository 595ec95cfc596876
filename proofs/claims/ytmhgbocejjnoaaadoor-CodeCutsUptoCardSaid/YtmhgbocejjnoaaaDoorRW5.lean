/- Walks: node's walk, Size, Check. -/
import Derived.Test.YtmhgbocejjnoaaaDoorRW4
namespace Go.Proofs.YtmhgbocejjnoaaaDoor
open Go.RowKit Go.Redl
set_option linter.unusedVariables false

theorem env_new (W : World) (o : Obj) (cb : Nat) (caps : Array Value) : EnvAt (((W.alloc o).alloc (Obj.cells #[.func (.func cb) #[] caps] 32)).alloc (Obj.cells #[.func (.func 59) #[] #[.pointer (some ⟨W.heap.size + 1, 0, none⟩), .pointer (some ⟨W.heap.size + 1 + 1, 0, none⟩)]] 32))
    (W.heap.size + 1) (W.heap.size + 1 + 1) cb caps := by
  constructor
  · rw [Below.heap_alloc _ _ _ (by simp)]
    have h := heap_alloc_new (W.alloc o) (Obj.cells #[.func (.func cb) #[] caps] 32)
    simpa using h
  · have h := heap_alloc_new ((W.alloc o).alloc (Obj.cells #[.func (.func cb) #[] caps] 32)) (Obj.cells #[.func (.func 59) #[] #[.pointer (some ⟨W.heap.size + 1, 0, none⟩), .pointer (some ⟨W.heap.size + 1 + 1, 0, none⟩)]] 32)
    simpa using h
theorem below_three (W : World) (o1 o2 o3 : Obj) : Below W.heap.size W (((W.alloc o1).alloc o2).alloc o3) :=
  (((Below.refl _ _).alloc (Nat.le_refl _) o1).alloc (by simp) o2).alloc (by simp; omega) o3

section
variable {S : Type} {Φ : S → World → Prop} {bad : TypeId → Bool} {B cb : Nat} {caps : Array Value} {go : NodeD → Bool} {st : NodeD → S → S} {M : Nat}

set_option maxRecDepth 100000 in
set_option maxHeartbeats 2000000 in
theorem walk_c (hΦ : ∀ s W W', Φ s W → Below W.heap.size W W' → Φ s W') (hb1 : bad 32 = false) (hb2 : bad 26 = false) (hcb : ∀ args w, (callFunc cb args).run Tryd.prog w = .ok (.enter cb args) w) (hA : AskC Φ bad B cb caps go st M)
    (n : NodeD) (v : Value) (s : S) (W : World) (hM : n.wt ≤ M) (hv : NodeV W B n v) (hB : B ≤ W.heap.size) (hs : Φ s W) :
      Calls Tryd.prog 38 #[v, .func (.func cb) #[] caps] W (EachP Φ bad B W (eachS go st n s).1 (eachS go st n s).2) := by
  have hv0 := hv
  obtain ⟨l, ps, t, ks⟩ := n
  obtain ⟨ap, cp, at_, ct, ak, ck, css, rfl, -, -, -, -⟩ := hv0.open
  generalize NodeD.mk l ps t ks = n at hv hM ⊢
  have HE := fun (tb eb : Nat) (W' : World) (hE : EnvAt W' tb eb cb caps) (hW : Below W.heap.size W W') => Lib.hid (each_c (tb := tb) (eb := eb) hΦ hb1 hb2 hcb hA _ n _ s W' (Nat.le_refl _) hM (hv.keep (hW.mono hB) (Nat.le_refl _)) (Nat.le_trans hB hW.size) hE (hΦ _ _ _ hs hW))
  have HS := fun (W' w' : World) (hW : Below W.heap.size W W') (hS : Spares bad B W' w') => (Spares.of_below (bad := bad) hW hB).trans hS
  generalize eachS go st n s = r at HE ⊢
  obtain ⟨b, s'⟩ := r
  have HE := Lib.hid HE
  have HS := Lib.hid HS
  have hmf : ∀ (fn : Fn) (first cap : Array Value) (w : World), (Instr.makeFunc fn first cap).run Tryd.prog w = .ok (.func fn first cap) w := fun _ _ _ _ => rfl
  have hst := fun (W : World) (a : Addr) (fn : Fn) (first cap : Array Value) (m : Mode) => run_store Tryd.prog W a (.func fn first cap) m rfl
  clear hv0 hv hA hs hM
  go_enter Tryd.func38, Tryd.ntmps38
  go_wp2_with fail
  refine (HE.out _ _ _ (env_new W _ cb caps) (below_three _ _ _ _)).out.mono ?_
  rintro e w1 ⟨rfl, hφ, hsp⟩
  have Hφ := Lib.hid hφ; have HSp := Lib.hid (HS.out _ _ (below_three _ _ _ _) hsp)
  clear hφ hsp
  go_wp2_with fail
  go_ret
  exact ⟨rfl, Hφ.out, HSp.out⟩
end

/-- A cell of a number. -/
def CellI (T : TypeId) (b : Nat) (x : Int) (W : World) : Prop := W.heap[b]? = some (Obj.cells #[.int .i64 x] T (0, 0))
theorem CellI.keep {T : TypeId} {b : Nat} {x : Int} {W W' : World} (h : CellI T b x W) (hb : Below W.heap.size W W') : CellI T b x W' := by
  unfold CellI at *
  rw [hb.block b (Array.getElem?_eq_some_iff.1 h).1]; exact h
theorem CellI.cell {T : TypeId} {b : Nat} {x : Int} {W : World} (h : CellI T b x W) : W.cell? ⟨b, 0, none⟩ = some (.int .i64 x) ∧ W.frozen? ⟨b, 0, none⟩ = false ∧ b < W.heap.size := by
  unfold CellI at h
  exact ⟨by rw [cell_of_row _ _ _ _ _ _ h]; rfl, by simp [World.frozen?, h], (Array.getElem?_eq_some_iff.1 h).1⟩
theorem CellI.set_ {T : TypeId} {b : Nat} {x y : Int} {W : World} (h : CellI T b x W) : CellI T b y (W.setCell ⟨b, 0, none⟩ (.int .i64 y)) := by
  unfold CellI at *
  simp [World.setCell, Array.getElem?_modify, h]

/-- The sum so far. -/
def SumAt (b : Nat) (s : Nat) (W : World) : Prop := ∃ x : Int, x = wrap64 (s : Int) ∧ CellI 3 b x W
def txtLen : NodeD → Nat
  | .mk _ _ t _ => t.length
def badInt (T : TypeId) : Bool := T == 3

theorem wrap64_add (a b : Int) : wrap64 (wrap64 a + b) = wrap64 (a + b) := by
  unfold wrap64; omega

def goSize : NodeD → Bool := fun _ => true
def stSize (n : NodeD) (s : Nat) : Nat := s + (1 + txtLen n)

set_option maxRecDepth 100000 in
set_option maxHeartbeats 1000000 in
theorem size1_c (b B M : Nat) (hBb : B ≤ b) (hM : M ≤ 1000000000) : AskC (SumAt b) badInt B 58 #[.pointer (some ⟨b, 0, none⟩)] goSize stSize M := by
  intro n v s W hn hv hB hs
  have hv0 := hv
  obtain ⟨l, ps, t, ks⟩ := n
  obtain ⟨ap, cp, at_, ct, ak, ck, css, rfl, -, -, -, -⟩ := hv0.open
  have hwt : 1 + propsWt ps + t.length + wtAll ks = (NodeD.mk l ps t ks).wt := rfl
  have htl : t.length ≤ 1000000000 := by omega
  obtain ⟨x, hx, hc⟩ := hs
  obtain ⟨c1, c2, c3⟩ := hc.cell
  have Hx := Lib.hid hx
  have Hc := Lib.hid hc
  have Hst : Hid (txtLen (.mk l ps t ks) = t.length) := rfl
  clear hv0 hv hx hc hwt hn
  show Calls Tryd.prog 58 #[_, _] W _
  go_enter Tryd.func58, Tryd.ntmps58
  go_wp2_with fail
  go_ret
  refine ⟨rfl, ⟨_, ?_, (Hc.out.set_).keep ((Below.refl _ _).alloc (Nat.le_refl _) _)⟩, ?_⟩
  · show _ = wrap64 ((s + (1 + txtLen (.mk l ps t ks)) : Nat) : Int)
    rw [Hst.out, Hx.out, wrap64_add, Int.natCast_add, Int.natCast_add]; rfl
  · exact ((Spares.refl hB).setCell Hc.out rfl hBb _).alloc hB _

def badErr (T : TypeId) : Bool := T == 29
def ownN : NodeD → Int
  | .mk l ps t ks => ownE l ps t ks.length

def goCheck (n : NodeD) : Bool := ownN n == 0
def stCheck (n : NodeD) (_ : Int) : Int := ownN n

set_option maxRecDepth 100000 in
set_option maxHeartbeats 1000000 in
theorem ask_c (b B M : Nat) (hBb : B ≤ b) (hM : M ≤ 100000000) : AskC (CellI 29 b) badErr B 39 #[.pointer (some ⟨b, 0, none⟩)] goCheck stCheck M := by
  intro n v s W hn hv hB hs
  have hv0 := hv
  obtain ⟨l, ps, t, ks⟩ := n
  obtain ⟨ap, cp, at_, ct, ak, ck, css, rfl, -, -, -, -⟩ := hv0.open
  have hW1 : Below W.heap.size W (W.alloc (Obj.cells #[.bool l, .slice ap ps.length cp, .slice at_ t.length ct, .slice ak ks.length ck] 26)) := (Below.refl _ _).alloc (Nat.le_refl _) _
  have HO := Lib.hid (own_c l ps t ks _ B _ (Nat.le_trans hB hW1.size) (by omega) (hv.keep (hW1.mono hB) (Nat.le_refl _)))
  have Hst : Hid (goCheck (.mk l ps t ks) = (ownE l ps t ks.length == 0)) := rfl
  have Hst2 : Hid (stCheck (.mk l ps t ks) s = ownE l ps t ks.length) := rfl
  have HW1 := Lib.hid hW1
  have Hs := Lib.hid hs
  generalize NodeD.mk l ps t ks = n at Hst Hst2 ⊢
  show Calls Tryd.prog 39 #[.agg #[.bool l, .slice ap ps.length cp, .slice at_ t.length ct, .slice ak ks.length ck], .pointer (some ⟨b, 0, none⟩)] W _
  rw [Hst.out, Hst2.out]
  generalize ownE l ps t ks.length = x at HO ⊢
  clear hv0 hv hn hs hW1
  by_cases hx : x = 0
  · subst hx
    go_enter Tryd.func39, Tryd.ntmps39
    go_wp2_with fail
    refine HO.out.mono ?_
    rintro e w1 ⟨rfl, hbel⟩
    have Hb := Lib.hid (below_then HW1.out hbel (Nat.le_refl _))
    have Hc := Lib.hid (Hs.out.keep Hb.out)
    obtain ⟨c1, c2, c3⟩ := Hc.out.cell
    clear hbel HO
    go_wp2_with fail
    go_ret
    exact ⟨rfl, Hc.out.set_, (Spares.of_below Hb.out hB).setCell Hc.out rfl hBb _⟩
  · have hxb : (x == 0) = false := by simpa using hx
    have Hxb := Lib.hid hxb
    clear hx
    go_enter Tryd.func39, Tryd.ntmps39
    go_wp2_with fail
    refine HO.out.mono ?_
    rintro e w1 ⟨rfl, hbel⟩
    have Hb := Lib.hid (below_then HW1.out hbel (Nat.le_refl _))
    have Hc := Lib.hid (Hs.out.keep Hb.out)
    obtain ⟨c1, c2, c3⟩ := Hc.out.cell
    clear hbel HO
    go_wp2_with fail
    go_ret
    exact ⟨ret_bool Hxb.out.symm, Hc.out.set_, (Spares.of_below Hb.out hB).setCell Hc.out rfl hBb _⟩

theorem eachS_mk {S : Type} (go : NodeD → Bool) (st : NodeD → S → S) (l : Bool) (ps : List PropD) (t : List Int) (ks : List NodeD) (s : S) : eachS go st (.mk l ps t ks) s = if go (.mk l ps t ks) then kidsS go st ks (st (.mk l ps t ks) s) else (false, st (.mk l ps t ks) s) := by
  rw [eachS]
theorem kidsS_cons {S : Type} (go : NodeD → Bool) (st : NodeD → S → S) (k : NodeD) (ks : List NodeD) (s : S) : kidsS go st (k :: ks) s = if (eachS go st k s).1 then kidsS go st ks (eachS go st k s).2 else (false, (eachS go st k s).2) := by
  rw [kidsS]
mutual
theorem eachS_size : ∀ (n : NodeD) (s : Nat), eachS goSize stSize n s = (true, s + sizeN n)
  | .mk l ps t ks, s => by
    have hg : goSize (.mk l ps t ks) = true := rfl
    rw [eachS_mk, hg, if_pos rfl, kidsS_size ks]
    have : sizeN (.mk l ps t ks) = 1 + t.length + sizeK ks := by rw [sizeN]
    rw [this]
    show (true, s + (1 + t.length) + sizeK ks) = _
    congr 1; omega
theorem kidsS_size : ∀ (ks : List NodeD) (s : Nat), kidsS goSize stSize ks s = (true, s + sizeK ks)
  | [], s => by simp [kidsS, sizeK]
  | k :: ks, s => by
    rw [kidsS_cons, eachS_size k, if_pos rfl, kidsS_size ks]
    have : sizeK (k :: ks) = sizeN k + sizeK ks := by rw [sizeK]
    rw [this]
    congr 1; omega
end
theorem nodeE_mk (l : Bool) (ps : List PropD) (t : List Int) (ks : List NodeD) : nodeE (.mk l ps t ks) = if ownE l ps t ks.length ≠ 0 then ownE l ps t ks.length else kidsE ks := by rw [nodeE]
theorem kidsE_cons (k : NodeD) (ks : List NodeD) : kidsE (k :: ks) = if nodeE k ≠ 0 then nodeE k else kidsE ks := by rw [kidsE]
mutual
theorem eachS_check : ∀ (n : NodeD) (s : Int), eachS goCheck stCheck n s = (nodeE n == 0, nodeE n)
  | .mk l ps t ks, s => by
    have hg : goCheck (.mk l ps t ks) = (ownE l ps t ks.length == 0) := rfl
    have hs : stCheck (.mk l ps t ks) s = ownE l ps t ks.length := rfl
    rw [eachS_mk, hg, hs, nodeE_mk]
    by_cases h : ownE l ps t ks.length = 0
    · rw [h]; simp [kidsS_check ks]
    · rw [if_neg (by simpa using h), if_pos h]
      simp [h]
theorem kidsS_check : ∀ (ks : List NodeD), kidsS goCheck stCheck ks 0 = (kidsE ks == 0, kidsE ks)
  | [] => by rw [kidsS, kidsE]; rfl
  | k :: ks => by
    rw [kidsS_cons, eachS_check k, kidsE_cons]
    by_cases h : nodeE k = 0
    · rw [h]; simp [kidsS_check ks]
    · rw [if_neg (by simpa using h), if_pos h]
      simp [h]
end

set_option maxRecDepth 100000 in
set_option maxHeartbeats 1000000 in
theorem nsize_c (n : NodeD) (v : Value) (B : Nat) (W : World) (hn : n.wt ≤ 100000000) (hv : NodeV W B n v) (hB : B ≤ W.heap.size) :
    Calls Tryd.prog 37 #[v] W fun e w' => e = .returned (.int .i64 (sizeN n)) ∧ Below W.heap.size W w' := by
  have hv0 := hv
  obtain ⟨l, ps, t, ks⟩ := n
  obtain ⟨ap, cp, at_, ct, ak, ck, css, rfl, -, -, -, -⟩ := hv0.open
  have hsz := sizeN_le (.mk l ps t ks)
  generalize NodeD.mk l ps t ks = n at hv hn hsz ⊢
  have hW1 : Below W.heap.size W (W.alloc (Obj.cells #[.bool l, .slice ap ps.length cp, .slice at_ t.length ct, .slice ak ks.length ck] 26)) := (Below.refl _ _).alloc (Nat.le_refl _) _
  have hW2 := hW1.alloc (o := Obj.cells #[.int .i64 0] 3) (by simp)
  have hv2 := hv.keep (hW2.mono hB) hB
  have hc0 : SumAt (W.heap.size + 1) 0 ((W.alloc (Obj.cells #[.bool l, .slice ap ps.length cp, .slice at_ t.length ct, .slice ak ks.length ck] 26)).alloc (Obj.cells #[.int .i64 0] 3)) := by
    refine ⟨0, (IntWalk.wrap64_in 0 (by omega)).symm, ?_⟩
    have h := heap_alloc_new (W.alloc (Obj.cells #[.bool l, .slice ap ps.length cp, .slice at_ t.length ct, .slice ak ks.length ck] 26)) (Obj.cells #[.int .i64 0] 3)
    simpa [CellI] using h
  have HW := Lib.hid (walk_c (Φ := SumAt (W.heap.size + 1)) (bad := badInt) (M := 100000000) (fun s W W' h hb => by obtain ⟨x, h1, h2⟩ := h; exact ⟨x, h1, h2.keep hb⟩) rfl rfl (by intro args w; kernel_rfl)
    (size1_c (W.heap.size + 1) W.heap.size 100000000 (by omega) (by omega)) n _ 0 _ hn hv2 hW2.size hc0)
  rw [eachS_size, Nat.zero_add] at HW
  have hw0 : wrap64 (sizeN n : Int) = sizeN n := IntWalk.wrap64_in _ (by omega)
  have Hw0 := Lib.hid hw0
  have hmf : ∀ (fn : Fn) (first cap : Array Value) (w : World), (Instr.makeFunc fn first cap).run Tryd.prog w = .ok (.func fn first cap) w := fun _ _ _ _ => rfl
  have HW2 := Lib.hid hW2
  clear hv0 hv hsz hW1 hv2 hc0 hn hw0 hW2
  go_enter Tryd.func37, Tryd.ntmps37
  go_wp2_with fail
  refine HW.out.mono ?_
  rintro e w1 ⟨rfl, ⟨x, hx, hc⟩, hsp⟩
  rw [Hw0.out] at hx
  subst hx
  obtain ⟨c1, c2, c3⟩ := hc.cell
  have Hb := Lib.hid (HW2.out.trans hsp.below)
  clear hc hsp HW
  go_wp2_with fail
  go_ret
  exact ⟨rfl, Hb.out⟩

set_option maxRecDepth 100000 in
set_option maxHeartbeats 1000000 in
theorem ncheck_c (n : NodeD) (v : Value) (B : Nat) (W : World) (hn : n.wt ≤ 1048576) (hv : NodeV W B n v) (hB : B ≤ W.heap.size) :
    Calls Tryd.prog 18 #[v] W fun e w' => e = .returned (.int .i64 (nodeE n)) ∧ Below W.heap.size W w' := by
  have hv0 := hv
  obtain ⟨l, ps, t, ks⟩ := n
  obtain ⟨ap, cp, at_, ct, ak, ck, css, rfl, -, -, -, -⟩ := hv0.open
  have hsz := sizeN_le (.mk l ps t ks)
  generalize NodeD.mk l ps t ks = n at hv hn hsz ⊢
  have hW1 : Below W.heap.size W (W.alloc (Obj.cells #[.bool l, .slice ap ps.length cp, .slice at_ t.length ct, .slice ak ks.length ck] 26)) := (Below.refl _ _).alloc (Nat.le_refl _) _
  have HS := Lib.hid (nsize_c n _ B _ (by omega) (hv.keep (hW1.mono hB) (Nat.le_refl _)) (Nat.le_trans hB hW1.size))
  have hs2 : sizeN n ≤ 1048576 := by omega
  have HK := fun (w1 : World) (hb : Below W.heap.size W w1) => Lib.hid (walk_c (Φ := CellI 29 w1.heap.size) (bad := badErr) (M := 100000000) (fun s W W' h hb => h.keep hb) rfl rfl (by intro args w; kernel_rfl)
    (ask_c w1.heap.size w1.heap.size 100000000 (by omega) (by omega)) n _ 0 (w1.alloc (Obj.cells #[.int .i64 0] 29)) (by omega) (hv.keep ((hb.alloc hb.size _).mono hB) (Nat.le_trans hB hb.size)) (by simp) (heap_alloc_new w1 _))
  simp only [eachS_check] at HK
  have hmf : ∀ (fn : Fn) (first cap : Array Value) (w : World), (Instr.makeFunc fn first cap).run Tryd.prog w = .ok (.func fn first cap) w := fun _ _ _ _ => rfl
  clear hv0 hv hsz hW1 hn
  go_enter Tryd.func18, Tryd.ntmps18
  go_wp2_with fail
  refine HS.out.mono ?_
  rintro e w1 ⟨rfl, hbel⟩
  obtain ⟨x0, x1, x2, x3⟩ := box_keep (below_box hbel)
  have Hb1 := Lib.hid (below_unbox (below_box hbel))
  have hsz1 : W.heap.size < w1.heap.size := by have := (below_box hbel).size; simp at this; omega
  have HK1 := HK w1 Hb1.out
  clear hbel HS HK
  go_wp2_with fail
  refine HK1.out.mono ?_
  rintro e w2 ⟨rfl, hc, hsp⟩
  obtain ⟨c1, c2, c3⟩ := hc.cell
  have Hb2 := Lib.hid (Hb1.out.trans (((Below.refl w1.heap.size w1).alloc (Nat.le_refl _) (Obj.cells #[.int .i64 0] 29)).trans hsp.below |>.mono Hb1.out.size))
  clear hc hsp HK1 x0 x1 x2 x3
  go_wp2_with fail
  go_ret
  exact ⟨rfl, Hb2.out⟩

end Go.Proofs.YtmhgbocejjnoaaaDoor
