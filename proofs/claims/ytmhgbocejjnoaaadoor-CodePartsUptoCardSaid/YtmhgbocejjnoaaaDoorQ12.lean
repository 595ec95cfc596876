/- Parts of the proof, one behind the other: RW5, RB2, RR6, RW6. -/
import Derived.Test.YtmhgbocejjnoaaaDoorQ11
import Derived.Test.YtmhgbocejjnoaaaDoorQ7
import Derived.Test.YtmhgbocejjnoaaaDoorQ1
import Derived.Test.YtmhgbocejjnoaaaDoorQ4
/- Walks: node's walk, Size, Check. -/
namespace Go.Proofs.YtmhgbocejjnoaaaDoor
open Go.RowKit Go.Redl
set_option linter.unusedVariables false

theorem env_new (W : World) (o : Obj) (cb : Nat) (caps : Array Value) : EnvAt (((W.alloc o).alloc (Obj.cells #[.func (.func cb) #[] caps] 32)).alloc (Obj.cells #[.func (.func 59) #[] #[.pointer (some ⟨W.heap.size + 1, 0, none⟩), .pointer (some ⟨W.heap.size + 1 + 1, 0, none⟩)]] 32))
    (W.heap.size + 1) (W.heap.size + 1 + 1) cb caps := by
  constructor
  · rw [Below.heap_alloc _ _ _ (by simp)]
    have h := heap_alloc_new (W.alloc o) (Obj.cells #[.func (.func cb) #[] caps] 32)
    simpa using h
  · have h := heap_alloc_new ((W.alloc o).alloc (Obj.cells #[.func (.func cb) #[] caps] 32)) (Obj.cells #[.func (.func 59) #[] #[.pointer (some ⟨W.heap.size + 1, 0, none⟩), .pointer (some ⟨W.heap.size + 1 + 1, 0, none⟩)]] 32)
    simpa using h
theorem below_three (W : World) (o1 o2 o3 : Obj) : Below W.heap.size W (((W.alloc o1).alloc o2).alloc o3) :=
  (((Below.refl _ _).alloc (Nat.le_refl _) o1).alloc (by simp) o2).alloc (by simp; omega) o3

section
variable {S : Type} {Φ : S → World → Prop} {bad : TypeId → Bool} {B cb : Nat} {caps : Array Value} {go : NodeD → Bool} {st : NodeD → S → S} {M : Nat}

set_option maxRecDepth 100000 in
set_option maxHeartbeats 2000000 in
theorem walk_c (hΦ : ∀ s W W', Φ s W → Below W.heap.size W W' → Φ s W') (hb1 : bad 32 = false) (hb2 : bad 26 = false) (hcb : ∀ args w, (callFunc cb args).run Tryd.prog w = .ok (.enter cb args) w) (hA : AskC Φ bad B cb caps go st M)
    (n : NodeD) (v : Value) (s : S) (W : World) (hM : n.wt ≤ M) (hv : NodeV W B n v) (hB : B ≤ W.heap.size) (hs : Φ s W) :
      Calls Tryd.prog 38 #[v, .func (.func cb) #[] caps] W (EachP Φ bad B W (eachS go st n s).1 (eachS go st n s).2) := by
  have hv0 := hv
  obtain ⟨l, ps, t, ks⟩ := n
  obtain ⟨ap, cp, at_, ct, ak, ck, css, rfl, -, -, -, -⟩ := hv0.open
  generalize NodeD.mk l ps t ks = n at hv hM ⊢
  have HE := fun (tb eb : Nat) (W' : World) (hE : EnvAt W' tb eb cb caps) (hW : Below W.heap.size W W') => Lib.hid (each_c (tb := tb) (eb := eb) hΦ hb1 hb2 hcb hA _ n _ s W' (Nat.le_refl _) hM (hv.keep (hW.mono hB) (Nat.le_refl _)) (Nat.le_trans hB hW.size) hE (hΦ _ _ _ hs hW))
  have HS := fun (W' w' : World) (hW : Below W.heap.size W W') (hS : Spares bad B W' w') => (Spares.of_below (bad := bad) hW hB).trans hS
  generalize eachS go st n s = r at HE ⊢
  obtain ⟨b, s'⟩ := r
  have HE := Lib.hid HE
  have HS := Lib.hid HS
  have hmf : ∀ (fn : Fn) (first cap : Array Value) (w : World), (Instr.makeFunc fn first cap).run Tryd.prog w = .ok (.func fn first cap) w := fun _ _ _ _ => rfl
  have hst := fun (W : World) (a : Addr) (fn : Fn) (first cap : Array Value) (m : Mode) => run_store Tryd.prog W a (.func fn first cap) m rfl
  clear hv0 hv hA hs hM
  go_enter Tryd.func38, Tryd.ntmps38
  go_wp2_with fail
  refine (HE.out _ _ _ (env_new W _ cb caps) (below_three _ _ _ _)).out.mono ?_
  rintro e w1 ⟨rfl, hφ, hsp⟩
  have Hφ := Lib.hid hφ; have HSp := Lib.hid (HS.out _ _ (below_three _ _ _ _) hsp)
  clear hφ hsp
  go_wp2_with fail
  go_ret
  exact ⟨rfl, Hφ.out, HSp.out⟩
end

/-- A cell of a number. -/
def CellI (T : TypeId) (b : Nat) (x : Int) (W : World) : Prop := W.heap[b]? = some (Obj.cells #[.int .i64 x] T (0, 0))
theorem CellI.keep {T : TypeId} {b : Nat} {x : Int} {W W' : World} (h : CellI T b x W) (hb : Below W.heap.size W W') : CellI T b x W' := by
  unfold CellI at *
  rw [hb.block b (Array.getElem?_eq_some_iff.1 h).1]; exact h
theorem CellI.cell {T : TypeId} {b : Nat} {x : Int} {W : World} (h : CellI T b x W) : W.cell? ⟨b, 0, none⟩ = some (.int .i64 x) ∧ W.frozen? ⟨b, 0, none⟩ = false ∧ b < W.heap.size := by
  unfold CellI at h
  exact ⟨by rw [cell_of_row _ _ _ _ _ _ h]; rfl, by simp [World.frozen?, h], (Array.getElem?_eq_some_iff.1 h).1⟩
theorem CellI.set_ {T : TypeId} {b : Nat} {x y : Int} {W : World} (h : CellI T b x W) : CellI T b y (W.setCell ⟨b, 0, none⟩ (.int .i64 y)) := by
  unfold CellI at *
  simp [World.setCell, Array.getElem?_modify, h]

/-- The sum so far. -/
def SumAt (b : Nat) (s : Nat) (W : World) : Prop := ∃ x : Int, x = wrap64 (s : Int) ∧ CellI 3 b x W
def txtLen : NodeD → Nat
  | .mk _ _ t _ => t.length
def badInt (T : TypeId) : Bool := T == 3

theorem wrap64_add (a b : Int) : wrap64 (wrap64 a + b) = wrap64 (a + b) := by
  unfold wrap64; omega

def goSize : NodeD → Bool := fun _ => true
def stSize (n : NodeD) (s : Nat) : Nat := s + (1 + txtLen n)

set_option maxRecDepth 100000 in
set_option maxHeartbeats 1000000 in
theorem size1_c (b B M : Nat) (hBb : B ≤ b) (hM : M ≤ 1000000000) : AskC (SumAt b) badInt B 58 #[.pointer (some ⟨b, 0, none⟩)] goSize stSize M := by
  intro n v s W hn hv hB hs
  have hv0 := hv
  obtain ⟨l, ps, t, ks⟩ := n
  obtain ⟨ap, cp, at_, ct, ak, ck, css, rfl, -, -, -, -⟩ := hv0.open
  have hwt : 1 + propsWt ps + t.length + wtAll ks = (NodeD.mk l ps t ks).wt := rfl
  have htl : t.length ≤ 1000000000 := by omega
  obtain ⟨x, hx, hc⟩ := hs
  obtain ⟨c1, c2, c3⟩ := hc.cell
  have Hx := Lib.hid hx
  have Hc := Lib.hid hc
  have Hst : Hid (txtLen (.mk l ps t ks) = t.length) := rfl
  clear hv0 hv hx hc hwt hn
  show Calls Tryd.prog 58 #[_, _] W _
  go_enter Tryd.func58, Tryd.ntmps58
  go_wp2_with fail
  go_ret
  refine ⟨rfl, ⟨_, ?_, (Hc.out.set_).keep ((Below.refl _ _).alloc (Nat.le_refl _) _)⟩, ?_⟩
  · show _ = wrap64 ((s + (1 + txtLen (.mk l ps t ks)) : Nat) : Int)
    rw [Hst.out, Hx.out, wrap64_add, Int.natCast_add, Int.natCast_add]; rfl
  · exact ((Spares.refl hB).setCell Hc.out rfl hBb _).alloc hB _

def badErr (T : TypeId) : Bool := T == 29
def ownN : NodeD → Int
  | .mk l ps t ks => ownE l ps t ks.length

def goCheck (n : NodeD) : Bool := ownN n == 0
def stCheck (n : NodeD) (_ : Int) : Int := ownN n

set_option maxRecDepth 100000 in
set_option maxHeartbeats 1000000 in
theorem ask_c (b B M : Nat) (hBb : B ≤ b) (hM : M ≤ 100000000) : AskC (CellI 29 b) badErr B 39 #[.pointer (some ⟨b, 0, none⟩)] goCheck stCheck M := by
  intro n v s W hn hv hB hs
  have hv0 := hv
  obtain ⟨l, ps, t, ks⟩ := n
  obtain ⟨ap, cp, at_, ct, ak, ck, css, rfl, -, -, -, -⟩ := hv0.open
  have hW1 : Below W.heap.size W (W.alloc (Obj.cells #[.bool l, .slice ap ps.length cp, .slice at_ t.length ct, .slice ak ks.length ck] 26)) := (Below.refl _ _).alloc (Nat.le_refl _) _
  have HO := Lib.hid (own_c l ps t ks _ B _ (Nat.le_trans hB hW1.size) (by omega) (hv.keep (hW1.mono hB) (Nat.le_refl _)))
  have Hst : Hid (goCheck (.mk l ps t ks) = (ownE l ps t ks.length == 0)) := rfl
  have Hst2 : Hid (stCheck (.mk l ps t ks) s = ownE l ps t ks.length) := rfl
  have HW1 := Lib.hid hW1
  have Hs := Lib.hid hs
  generalize NodeD.mk l ps t ks = n at Hst Hst2 ⊢
  show Calls Tryd.prog 39 #[.agg #[.bool l, .slice ap ps.length cp, .slice at_ t.length ct, .slice ak ks.length ck], .pointer (some ⟨b, 0, none⟩)] W _
  rw [Hst.out, Hst2.out]
  generalize ownE l ps t ks.length = x at HO ⊢
  clear hv0 hv hn hs hW1
  by_cases hx : x = 0
  · subst hx
    go_enter Tryd.func39, Tryd.ntmps39
    go_wp2_with fail
    refine HO.out.mono ?_
    rintro e w1 ⟨rfl, hbel⟩
    have Hb := Lib.hid (below_then HW1.out hbel (Nat.le_refl _))
    have Hc := Lib.hid (Hs.out.keep Hb.out)
    obtain ⟨c1, c2, c3⟩ := Hc.out.cell
    clear hbel HO
    go_wp2_with fail
    go_ret
    exact ⟨rfl, Hc.out.set_, (Spares.of_below Hb.out hB).setCell Hc.out rfl hBb _⟩
  · have hxb : (x == 0) = false := by simpa using hx
    have Hxb := Lib.hid hxb
    clear hx
    go_enter Tryd.func39, Tryd.ntmps39
    go_wp2_with fail
    refine HO.out.mono ?_
    rintro e w1 ⟨rfl, hbel⟩
    have Hb := Lib.hid (below_then HW1.out hbel (Nat.le_refl _))
    have Hc := Lib.hid (Hs.out.keep Hb.out)
    obtain ⟨c1, c2, c3⟩ := Hc.out.cell
    clear hbel HO
    go_wp2_with fail
    go_ret
    exact ⟨ret_bool Hxb.out.symm, Hc.out.set_, (Spares.of_below Hb.out hB).setCell Hc.out rfl hBb _⟩

theorem eachS_mk {S : Type} (go : NodeD → Bool) (st : NodeD → S → S) (l : Bool) (ps : List PropD) (t : List Int) (ks : List NodeD) (s : S) : eachS go st (.mk l ps t ks) s = if go (.mk l ps t ks) then kidsS go st ks (st (.mk l ps t ks) s) else (false, st (.mk l ps t ks) s) := by
  rw [eachS]
theorem kidsS_cons {S : Type} (go : NodeD → Bool) (st : NodeD → S → S) (k : NodeD) (ks : List NodeD) (s : S) : kidsS go st (k :: ks) s = if (eachS go st k s).1 then kidsS go st ks (eachS go st k s).2 else (false, (eachS go st k s).2) := by
  rw [kidsS]
mutual
theorem eachS_size : ∀ (n : NodeD) (s : Nat), eachS goSize stSize n s = (true, s + sizeN n)
  | .mk l ps t ks, s => by
    have hg : goSize (.mk l ps t ks) = true := rfl
    rw [eachS_mk, hg, if_pos rfl, kidsS_size ks]
    have : sizeN (.mk l ps t ks) = 1 + t.length + sizeK ks := by rw [sizeN]
    rw [this]
    show (true, s + (1 + t.length) + sizeK ks) = _
    congr 1; omega
theorem kidsS_size : ∀ (ks : List NodeD) (s : Nat), kidsS goSize stSize ks s = (true, s + sizeK ks)
  | [], s => by simp [kidsS, sizeK]
  | k :: ks, s => by
    rw [kidsS_cons, eachS_size k, if_pos rfl, kidsS_size ks]
    have : sizeK (k :: ks) = sizeN k + sizeK ks := by rw [sizeK]
    rw [this]
    congr 1; omega
end
theorem nodeE_mk (l : Bool) (ps : List PropD) (t : List Int) (ks : List NodeD) : nodeE (.mk l ps t ks) = if ownE l ps t ks.length ≠ 0 then ownE l ps t ks.length else kidsE ks := by rw [nodeE]
theorem kidsE_cons (k : NodeD) (ks : List NodeD) : kidsE (k :: ks) = if nodeE k ≠ 0 then nodeE k else kidsE ks := by rw [kidsE]
mutual
theorem eachS_check : ∀ (n : NodeD) (s : Int), eachS goCheck stCheck n s = (nodeE n == 0, nodeE n)
  | .mk l ps t ks, s => by
    have hg : goCheck (.mk l ps t ks) = (ownE l ps t ks.length == 0) := rfl
    have hs : stCheck (.mk l ps t ks) s = ownE l ps t ks.length := rfl
    rw [eachS_mk, hg, hs, nodeE_mk]
    by_cases h : ownE l ps t ks.length = 0
    · rw [h]; simp [kidsS_check ks]
    · rw [if_neg (by simpa using h), if_pos h]
      simp [h]
theorem kidsS_check : ∀ (ks : List NodeD), kidsS goCheck stCheck ks 0 = (kidsE ks == 0, kidsE ks)
  | [] => by rw [kidsS, kidsE]; rfl
  | k :: ks => by
    rw [kidsS_cons, eachS_check k, kidsE_cons]
    by_cases h : nodeE k = 0
    · rw [h]; simp [kidsS_check ks]
    · rw [if_neg (by simpa using h), if_pos h]
      simp [h]
end

set_option maxRecDepth 100000 in
set_option maxHeartbeats 1000000 in
theorem nsize_c (n : NodeD) (v : Value) (B : Nat) (W : World) (hn : n.wt ≤ 100000000) (hv : NodeV W B n v) (hB : B ≤ W.heap.size) :
    Calls Tryd.prog 37 #[v] W fun e w' => e = .returned (.int .i64 (sizeN n)) ∧ Below W.heap.size W w' := by
  have hv0 := hv
  obtain ⟨l, ps, t, ks⟩ := n
  obtain ⟨ap, cp, at_, ct, ak, ck, css, rfl, -, -, -, -⟩ := hv0.open
  have hsz := sizeN_le (.mk l ps t ks)
  generalize NodeD.mk l ps t ks = n at hv hn hsz ⊢
  have hW1 : Below W.heap.size W (W.alloc (Obj.cells #[.bool l, .slice ap ps.length cp, .slice at_ t.length ct, .slice ak ks.length ck] 26)) := (Below.refl _ _).alloc (Nat.le_refl _) _
  have hW2 := hW1.alloc (o := Obj.cells #[.int .i64 0] 3) (by simp)
  have hv2 := hv.keep (hW2.mono hB) hB
  have hc0 : SumAt (W.heap.size + 1) 0 ((W.alloc (Obj.cells #[.bool l, .slice ap ps.length cp, .slice at_ t.length ct, .slice ak ks.length ck] 26)).alloc (Obj.cells #[.int .i64 0] 3)) := by
    refine ⟨0, (IntWalk.wrap64_in 0 (by omega)).symm, ?_⟩
    have h := heap_alloc_new (W.alloc (Obj.cells #[.bool l, .slice ap ps.length cp, .slice at_ t.length ct, .slice ak ks.length ck] 26)) (Obj.cells #[.int .i64 0] 3)
    simpa [CellI] using h
  have HW := Lib.hid (walk_c (Φ := SumAt (W.heap.size + 1)) (bad := badInt) (M := 100000000) (fun s W W' h hb => by obtain ⟨x, h1, h2⟩ := h; exact ⟨x, h1, h2.keep hb⟩) rfl rfl (by intro args w; kernel_rfl)
    (size1_c (W.heap.size + 1) W.heap.size 100000000 (by omega) (by omega)) n _ 0 _ hn hv2 hW2.size hc0)
  rw [eachS_size, Nat.zero_add] at HW
  have hw0 : wrap64 (sizeN n : Int) = sizeN n := IntWalk.wrap64_in _ (by omega)
  have Hw0 := Lib.hid hw0
  have hmf : ∀ (fn : Fn) (first cap : Array Value) (w : World), (Instr.makeFunc fn first cap).run Tryd.prog w = .ok (.func fn first cap) w := fun _ _ _ _ => rfl
  have HW2 := Lib.hid hW2
  clear hv0 hv hsz hW1 hv2 hc0 hn hw0 hW2
  go_enter Tryd.func37, Tryd.ntmps37
  go_wp2_with fail
  refine HW.out.mono ?_
  rintro e w1 ⟨rfl, ⟨x, hx, hc⟩, hsp⟩
  rw [Hw0.out] at hx
  subst hx
  obtain ⟨c1, c2, c3⟩ := hc.cell
  have Hb := Lib.hid (HW2.out.trans hsp.below)
  clear hc hsp HW
  go_wp2_with fail
  go_ret
  exact ⟨rfl, Hb.out⟩

set_option maxRecDepth 100000 in
set_option maxHeartbeats 1000000 in
theorem ncheck_c (n : NodeD) (v : Value) (B : Nat) (W : World) (hn : n.wt ≤ 1048576) (hv : NodeV W B n v) (hB : B ≤ W.heap.size) :
    Calls Tryd.prog 18 #[v] W fun e w' => e = .returned (.int .i64 (nodeE n)) ∧ Below W.heap.size W w' := by
  have hv0 := hv
  obtain ⟨l, ps, t, ks⟩ := n
  obtain ⟨ap, cp, at_, ct, ak, ck, css, rfl, -, -, -, -⟩ := hv0.open
  have hsz := sizeN_le (.mk l ps t ks)
  generalize NodeD.mk l ps t ks = n at hv hn hsz ⊢
  have hW1 : Below W.heap.size W (W.alloc (Obj.cells #[.bool l, .slice ap ps.length cp, .slice at_ t.length ct, .slice ak ks.length ck] 26)) := (Below.refl _ _).alloc (Nat.le_refl _) _
  have HS := Lib.hid (nsize_c n _ B _ (by omega) (hv.keep (hW1.mono hB) (Nat.le_refl _)) (Nat.le_trans hB hW1.size))
  have hs2 : sizeN n ≤ 1048576 := by omega
  have HK := fun (w1 : World) (hb : Below W.heap.size W w1) => Lib.hid (walk_c (Φ := CellI 29 w1.heap.size) (bad := badErr) (M := 100000000) (fun s W W' h hb => h.keep hb) rfl rfl (by intro args w; kernel_rfl)
    (ask_c w1.heap.size w1.heap.size 100000000 (by omega) (by omega)) n _ 0 (w1.alloc (Obj.cells #[.int .i64 0] 29)) (by omega) (hv.keep ((hb.alloc hb.size _).mono hB) (Nat.le_trans hB hb.size)) (by simp) (heap_alloc_new w1 _))
  simp only [eachS_check] at HK
  have hmf : ∀ (fn : Fn) (first cap : Array Value) (w : World), (Instr.makeFunc fn first cap).run Tryd.prog w = .ok (.func fn first cap) w := fun _ _ _ _ => rfl
  clear hv0 hv hsz hW1 hn
  go_enter Tryd.func18, Tryd.ntmps18
  go_wp2_with fail
  refine HS.out.mono ?_
  rintro e w1 ⟨rfl, hbel⟩
  obtain ⟨x0, x1, x2, x3⟩ := box_keep (below_box hbel)
  have Hb1 := Lib.hid (below_unbox (below_box hbel))
  have hsz1 : W.heap.size < w1.heap.size := by have := (below_box hbel).size; simp at this; omega
  have HK1 := HK w1 Hb1.out
  clear hbel HS HK
  go_wp2_with fail
  refine HK1.out.mono ?_
  rintro e w2 ⟨rfl, hc, hsp⟩
  obtain ⟨c1, c2, c3⟩ := hc.cell
  have Hb2 := Lib.hid (Hb1.out.trans (((Below.refl w1.heap.size w1).alloc (Nat.le_refl _) (Obj.cells #[.int .i64 0] 29)).trans hsp.below |>.mono Hb1.out.size))
  clear hc hsp HK1 x0 x1 x2 x3
  go_wp2_with fail
  go_ret
  exact ⟨rfl, Hb2.out⟩

end Go.Proofs.YtmhgbocejjnoaaaDoor
/- Walks: strings.Builder, written while other memory of the call's own stays as it is. -/
namespace Go.Proofs.YtmhgbocejjnoaaaDoor
open Go.RowKit Go.Redl
set_option linter.unusedVariables false

/-- What a builder writes: its own block, and its bytes. -/
def badBld (T : TypeId) : Bool := T == 52 || T == 5
/-- What a writing method leaves. -/
def WroteS (w : World) (B b : Nat) (l : List UInt8) (v : Value) (e : Ending) (w' : World) : Prop := e = .returned v ∧ BldU w' B b l ∧ Spares badBld B w w'

theorem copyCheckS_c (B b : Nat) (l : List UInt8) (w : World) (h : Bld w B b l) (hBw : B ≤ w.heap.size) :
    Calls Tryd.prog 52 #[.pointer (some ⟨b, 0, none⟩)] w fun e w' => e = .returned (.tuple #[]) ∧ BldU w' B b l ∧ Spares badBld B w w' := by
  rcases h with h | h
  · refine (copyCheck_new b w h.cell0 h.shape h.frozen0).mono ?_
    rintro e w' ⟨rfl, rfl⟩
    have h2 := h
    obtain ⟨hB, v, hbk, -⟩ := h2
    exact ⟨rfl, h.used _, (Spares.refl hBw).setCell (b := b) (off := 0) hbk rfl hB _⟩
  · refine (copyCheck_old b w h.cell0).mono ?_
    rintro e w' ⟨rfl, rfl⟩
    exact ⟨rfl, h, Spares.refl hBw⟩

set_option maxRecDepth 100000 in
set_option maxHeartbeats 1000000 in
theorem writeByteS_c (B b : Nat) (l : List UInt8) (c : UInt8) (w : World) (h : Bld w B b l) (hlen : l.length ≤ 100000000) (hBw : B ≤ w.heap.size) :
    Calls Tryd.prog 28 #[.pointer (some ⟨b, 0, none⟩), .int .u8 c.toNat] w (WroteS w B b (l ++ [c]) .nilIface) := by
  have H := Lib.hid (copyCheckS_c B b l w h hBw)
  clear h
  go_enter Tryd.func28, Tryd.ntmps28
  go_wp2_with fail
  refine H.out.mono ?_
  rintro e w1 ⟨rfl, h1, hsp1⟩
  have hb1 := hsp1.below
  obtain ⟨hB, v, hbk, hown, hne⟩ := h1
  have hlenc : (Lib.byteCells l).length = l.length := by simp [Lib.byteCells]
  have c0 : w1.cell? ⟨b, 0, none⟩ = some (.pointer (some ⟨b, 0, none⟩)) := by rw [Lib.cell_of_heap hbk]; rfl
  have c1 : w1.cell? ⟨b, 1, none⟩ = some v := by rw [Lib.cell_of_heap hbk]; rfl
  have hlt : b < w1.heap.size := (Array.getElem?_eq_some_iff.1 hbk).1
  have Hbk := Lib.hid hbk; have Ho := Lib.hid hown; have Hne := Lib.hid hne; have Hb1 := Lib.hid hb1; have Hsp1 := Lib.hid hsp1; have Hlc := Lib.hid hlenc
  clear hbk hown hne hb1 hsp1 hlenc H
  go_wp2_with (at_builtin; refine wpList_app rfl _ _ 41 rfl B 5 (.int .u8 0) 1 1 Tryd.underlying41 info_u8 rfl (by decide) _ _ _ rfl (Ho.out.alloc _) (some ⟨w1.heap.size, 0, none⟩) 1 1 (w1.heap.size + 1) [.int .u8 c.toNat] rfl ?hr ?c3 ?c4 ?c5 ?_)
  case hr => exact row_one _ _ _ _ rfl
  case c3 => rw [Hlc.out]; unfold maxLen; omega
  case c4 => rw [Hlc.out]; omega
  case c5 => have := Hb1.out.size; simp; omega
  intro v' w2 hown' hgrow
  have hb2 : w2.heap[b]? = some (.cells #[.pointer (some ⟨b, 0, none⟩), v] 52 (0, 0)) := by
    rw [hgrow.block b (by simp; omega) (fun e => Hne.out e.symm), Lib.alloc_old w1 _ b hlt]
    exact Hbk.out
  have d0 : w2.cell? ⟨b, 0, none⟩ = some (.pointer (some ⟨b, 0, none⟩)) := by rw [Lib.cell_of_heap hb2]; rfl
  have d1 : w2.cell? ⟨b, 1, none⟩ = some v := by rw [Lib.cell_of_heap hb2]; rfl
  have f1 : w2.frozen? ⟨b, 1, none⟩ = false := Lib.frozen_of_heap hb2 1
  obtain ⟨ao, n', cap, rfl⟩ : ∃ ao n' cap, v' = .slice ao n' cap := by
    rcases hown'.2 with ⟨hv, _⟩ | ⟨g, cap, cur, hv, _⟩
    · exact ⟨_, _, _, hv⟩
    · exact ⟨_, _, _, hv⟩
  have hbel := ((((Hsp1.out.alloc hBw (.cells #[.int .u8 c.toNat] 5)).grown (Ho.out.alloc _) hgrow rfl (Nat.le_refl _) hBw)).setCell (b := b) (off := 1) hb2 rfl hB (.slice ao n' cap))
  have Ho2 := Lib.hid hown'; have Hb2 := Lib.hid hb2; have Hbel := Lib.hid hbel
  clear hown' hb2 hgrow hbel
  go_wp2_with fail
  go_ret
  refine ⟨rfl, ?_, Hbel.out⟩
  have := Ho2.out
  refine Lib.BuilderAt.put (T := 52) (e := 5) hB Hb2.out ?_ (by decide)
  have e : Lib.byteCells (l ++ [c]) = Lib.byteCells l ++ [.int .u8 c.toNat] := by simp [Lib.byteCells]
  rw [e, List.length_append]
  exact this

set_option maxRecDepth 100000 in
set_option maxHeartbeats 1000000 in
theorem writeStringS_c (B b : Nat) (l s : List UInt8) (w : World) (h : Bld w B b l) (hlen : l.length + s.length ≤ 100000000) (hBw : B ≤ w.heap.size) :
    Calls Tryd.prog 31 #[.pointer (some ⟨b, 0, none⟩), .string ⟨s.toArray⟩] w (WroteS w B b (l ++ s) (.tuple #[.int .i64 s.length, .nilIface])) := by
  obtain ⟨i0, hi, hz0, hz1, hz2⟩ := info_parts info_u8
  have H := Lib.hid (copyCheckS_c B b l w h hBw)
  clear h
  have Hi := Lib.hid hi; have Hz0 := Lib.hid hz0; have Hz1 := Lib.hid hz1; have Hz2 := Lib.hid hz2
  clear hi hz0 hz1 hz2
  go_enter Tryd.func31, Tryd.ntmps31
  go_wp2_with fail
  refine H.out.mono ?_
  rintro e w1 ⟨rfl, h1, hsp1⟩
  have hb1 := hsp1.below
  obtain ⟨hB, v, hbk, hown, hne⟩ := h1
  have hlenc : (Lib.byteCells l).length = l.length := by simp [Lib.byteCells]
  have c0 : w1.cell? ⟨b, 0, none⟩ = some (.pointer (some ⟨b, 0, none⟩)) := by rw [Lib.cell_of_heap hbk]; rfl
  have c1 : w1.cell? ⟨b, 1, none⟩ = some v := by rw [Lib.cell_of_heap hbk]; rfl
  have hlt : b < w1.heap.size := (Array.getElem?_eq_some_iff.1 hbk).1
  have Hbk := Lib.hid hbk; have Ho := Lib.hid hown; have Hne := Lib.hid hne; have Hb1 := Lib.hid hb1; have Hsp1 := Lib.hid hsp1; have Hlc := Lib.hid hlenc
  clear hbk hown hne hb1 hsp1 hlenc H
  go_wp2_with (at_builtin; refine Lib.wpList_append_own_string _ rfl _ _ 41 9 rfl B 5 i0 Tryd.underlying41 Tryd.underlying9 Hi.out Hz0.out Hz1.out Hz2.out _ _ _ rfl Ho.out ⟨s.toArray⟩ rfl ?c3 ?c4 ?c5 ?_)
  case c3 => rw [Hlc.out]; unfold maxLen; simp [ByteArray.size]; omega
  case c4 => rw [Hlc.out]; simp [ByteArray.size]; omega
  case c5 => have := Hb1.out.size; omega
  intro v' w2 hown' hgrow _
  have hb2 : w2.heap[b]? = some (.cells #[.pointer (some ⟨b, 0, none⟩), v] 52 (0, 0)) := by
    rw [hgrow.block b hlt (fun e => Hne.out e.symm)]
    exact Hbk.out
  have d0 : w2.cell? ⟨b, 0, none⟩ = some (.pointer (some ⟨b, 0, none⟩)) := by rw [Lib.cell_of_heap hb2]; rfl
  have d1 : w2.cell? ⟨b, 1, none⟩ = some v := by rw [Lib.cell_of_heap hb2]; rfl
  have f1 : w2.frozen? ⟨b, 1, none⟩ = false := Lib.frozen_of_heap hb2 1
  obtain ⟨ao, n', cap, rfl⟩ : ∃ ao n' cap, v' = .slice ao n' cap := by
    rcases hown'.2 with ⟨hv, _⟩ | ⟨g, cap, cur, hv, _⟩
    · exact ⟨_, _, _, hv⟩
    · exact ⟨_, _, _, hv⟩
  have hbel := ((Hsp1.out.grown Ho.out hgrow rfl (Nat.le_refl _) hBw).setCell (b := b) (off := 1) hb2 rfl hB (.slice ao n' cap))
  have Ho2 := Lib.hid hown'; have Hb2 := Lib.hid hb2; have Hbel := Lib.hid hbel
  clear hown' hb2 hgrow hbel
  go_wp2_with fail
  go_ret2
  refine ⟨?_, ?_, Hbel.out⟩
  · simp
  have := Ho2.out
  refine Lib.BuilderAt.put (T := 52) (e := 5) hB Hb2.out ?_ (by decide)
  have e : Lib.byteCells (l ++ s) = Lib.byteCells l ++ Lib.strCells ⟨s.toArray⟩ := by simp [Lib.byteCells, Lib.strCells]
  rw [e, List.length_append, Lib.strCells_length]
  exact this

theorem writeByteS_n (B b : Nat) (l : List UInt8) (c : UInt8) (n : Int) (hc : (c.toNat : Int) = n) (w : World) (h : Bld w B b l) (hlen : l.length ≤ 100000000) (hBw : B ≤ w.heap.size) :
    Calls Tryd.prog 28 #[.pointer (some ⟨b, 0, none⟩), .int .u8 n] w (WroteS w B b (l ++ [c]) .nilIface) := by
  subst hc; exact writeByteS_c B b l c w h hlen hBw

end Go.Proofs.YtmhgbocejjnoaaaDoor
/- Walks: the reference's writing of a tree. -/
namespace Go.Proofs.YtmhgbocejjnoaaaDoor
open Go.RowKit Go.Redl
set_option linter.unusedVariables false

theorem str_prop (T K V : List UInt8) (c : UInt8) : ((⟨T.toArray⟩ : ByteArray) ++ ⟨#[c]⟩) ++ (((⟨K.toArray⟩ : ByteArray) ++ ⟨#[58]⟩) ++ ⟨V.toArray⟩) = ⟨(T ++ c :: propL (K, V)).toArray⟩ := by
  rw [show (⟨#[c]⟩ : ByteArray) = ⟨[c].toArray⟩ from rfl, show (⟨#[58]⟩ : ByteArray) = ⟨[58].toArray⟩ from rfl, bytes_append, bytes_append, bytes_append, bytes_append]
  simp [propL]
theorem str_snoc (T : List UInt8) (c : UInt8) : ((⟨T.toArray⟩ : ByteArray) ++ ⟨#[c]⟩) = ⟨(T ++ [c]).toArray⟩ := by
  rw [show (⟨#[c]⟩ : ByteArray) = ⟨[c].toArray⟩ from rfl, bytes_append]
theorem nodeE_zero {l : Bool} {ps : List PropD} {t : List Int} {ks : List NodeD} (h : nodeE (.mk l ps t ks) = 0) : propsE ps = 0 ∧ checkE t = 0 ∧ kidsE ks = 0 ∧ (l = true → ks = []) ∧ (l = false → t = []) := by
  simp only [nodeE] at h
  split at h
  · contradiction
  · rename_i h0
    have h0 : ownE l ps t ks.length = 0 := by simpa using h0
    unfold ownE at h0
    split at h0
    · contradiction
    · rename_i h1
      have h1 : propsE ps = 0 := by simpa using h1
      split at h0
      · cases h0
      · rename_i h2
        refine ⟨h1, h0, h, fun hl => ?_, fun hl => ?_⟩
        · subst hl; simp at h2; exact h2
        · subst hl; simp at h2; exact h2
theorem kidsE_mem {ks : List NodeD} (h : kidsE ks = 0) : ∀ k ∈ ks, nodeE k = 0 := by
  induction ks with
  | nil => simp
  | cons q ks ih =>
    simp only [kidsE] at h
    split at h
    · contradiction
    · rename_i h0
      have h0 : nodeE q = 0 := by simpa using h0
      intro k hk
      rcases List.mem_cons.1 hk with rfl | hk
      · exact h0
      · exact ih h k hk

set_option maxRecDepth 100000 in
set_option maxHeartbeats 4000000 in
theorem rtext_c (m : Nat) : ∀ (n : NodeD) (v : Value) (w : World), n.wt ≤ m → n.wt ≤ 1048576 → nodeE n = 0 → NodeV w w.heap.size n v →
    Calls Tryd.prog 22 #[v] w fun e w' => e = .returned (.string ⟨(printL n).toArray⟩) ∧ Below w.heap.size w w' := by
  induction m with
  | zero => intro n v w hm; have := wt_pos n; omega
  | succ m ih =>
    intro n v w hm hn hE hv
    obtain ⟨l, ps, t, ks⟩ := n
    obtain ⟨ap, cp, at_, ct, ak, ck, css, rfl, hp, ht, hk, hc⟩ := hv.open
    obtain ⟨-, hte, hke, hlk, hlt0⟩ := nodeE_zero hE
    have IH := Lib.hid ih
    have hwt : 1 + propsWt ps + t.length + wtAll ks = (NodeD.mk l ps t ks).wt := rfl
    have hw2 : wtAll ks ≤ 1048576 := by omega
    have hw3 : wtAll ks ≤ m := by omega
    have hw4 : propsWt ps ≤ 1048576 := by omega
    have hkl := wtAll_len ks
    have htl : t.length ≤ 1048576 := by omega
    have hpl := propsWt_len ps
    have Hpr : Hid (printL (.mk l ps t ks) = propsL ps ++ (if l then quoteL t else 91 :: (printK ks ++ [93]))) := rfl
    have HQ := fun W (hW : Below w.heap.size w W) => Lib.hid (rquote_ok _ _ t W (ht.keep hW hW.size) (Nat.le_refl _) hte (by omega))
    have HKe := Lib.hid (kidsE_mem hke)
    have hpm := propsC_len ps 123
    have Hpe : Hid (propsL ps = if ps.length = 0 then [] else propsC 123 ps ++ [125]) := rfl
    clear ih hv ht hwt hm hn hte hke hlk hlt0 hE
    go_enter Tryd.func22, Tryd.ntmps22
    go_wp2_with fail
    go_loopw [3, 13] (fun s i wr => ∃ k : Nat, k ≤ ps.length ∧ i = .int .i64 k ∧ s = .string ⟨(propsC 123 (ps.take k)).toArray⟩ ∧ Below (w.heap.size + 1) (w.alloc (Obj.cells #[.bool l, .slice ap ps.length cp, .slice at_ t.length ct, .slice ak ks.length ck] 26)) wr) (fun _ i _ => ps.length - (intOf i).toNat)
    case atStart => exact ⟨0, Nat.zero_le _, rfl, rfl, Below.refl _ _⟩
    case round =>
      obtain ⟨k, hkn, rfl, rfl, hbel⟩ := hrel
      have hr2 := hp.keep (below_unbox hbel) (below_unbox hbel).size
      have hcl := propsC_len (ps.take k) 123
      have hck := propsWt_take ps k
      by_cases hlt : k < ps.length
      · have Hb := Lib.hid hbel
        have Hss := Lib.hid (propsC_succ ps 123 k hlt)
        have hcw := propsWt_mem (List.getElem_mem hlt)
        obtain ⟨b, off, rfl, hb, g0, g1⟩ := hr2.prop_at k hlt
        generalize ps[k] = p at hcw g0 g1 Hss
        obtain ⟨p1, p2⟩ := p
        simp only at hcw g0 g1 Hss
        generalize propsC 123 (ps.take k) = T at hcl Hss ⊢
        have hTl : T.length ≤ 1048576 := by omega
        have hl1 : p1.length ≤ 1048576 := by omega
        have hl2 : p2.length ≤ 1048576 := by omega
        clear hbel hcl hck hcw
        cases k with
        | zero =>
          rw [Nat.zero_mul, Nat.add_zero] at g0 g1
          go_wp2_with fail
          go_roundw
          case rel => exact ⟨1, by omega, by go_num, by rw [Hss.out]; exact congrArg Value.string (str_prop _ _ _ _), below_box_more Hb.out⟩
          case measure => simp [intOf]; omega
        | succ j =>
          have hj0 : (((j + 1 : Nat) : Int) == 0) = false := by simp only [beq_eq_false_iff_ne, ne_eq]; omega
          have hj1 : (((j : Int) + 1) == 0) = false := by simp only [beq_eq_false_iff_ne, ne_eq]; omega
          go_wp2_with fail
          go_roundw
          case rel => exact ⟨j + 1 + 1, by omega, by go_num, by rw [Hss.out]; exact congrArg Value.string (str_prop _ _ _ _), below_box_more Hb.out⟩
          case measure => simp [intOf]; omega
      · obtain rfl : k = ps.length := by omega
        rw [List.take_length] at hcl ⊢
        obtain ⟨x0, x1, x2, x3⟩ := box_keep hbel
        have Hb := Lib.hid hbel
        clear hbel hcl hck
        generalize hT : propsC 123 ps = T at hpm Hpe ⊢
        have hTl : T.length ≤ 1048576 := by omega
        have Hb1 := Lib.hid (below_unbox Hb.out)
        have hpm2 : T.length = propsWt ps → T.length ≤ propsWt ps := by omega
        have hTp := hpm2 hpm
        clear hpm2
        have hT0 : 0 < ps.length ∨ T.length ≤ 0 := by
          rcases Nat.eq_zero_or_pos ps.length with h | h
          · right; rw [← hT, List.eq_nil_of_length_eq_zero h]; simp [propsC]
          · exact .inl h
        clear hT hpm
        by_cases hp0 : 0 < ps.length
        · have Hnz := Lib.hid hp0
          cases l with
          | true =>
            have HQ1 := HQ _ Hb1.out
            have hql := quoteL_len t
            go_wp2_with fail
            refine HQ1.out.mono ?_
            rintro e w2 ⟨rfl, hbel⟩
            have Hb2 := Lib.hid (Hb1.out.trans (hbel.mono Hb1.out.size))
            clear hbel HQ1
            go_wp2_with fail
            go_ret
            refine ⟨congrArg (fun s => Ending.returned (Value.string s)) ?_, Hb2.out⟩
            rw [str_snoc, bytes_append, Hpr.out, Hpe.out, if_neg (by have := Hnz.out; omega)]; rfl
          | false =>
            go_wp2_with fail
            go_loopw [3, 55] (fun s i wr => ∃ k : Nat, k ≤ ks.length ∧ i = .int .i64 k ∧ s = .string ⟨(T ++ [125] ++ 91 :: printK (ks.take k)).toArray⟩ ∧ Below w.heap.size w wr) (fun _ i _ => ks.length - (intOf i).toNat)
            case atStart => exact ⟨0, Nat.zero_le _, rfl, congrArg Value.string (by rw [str_snoc, str_snoc]; simp [printK]), Hb1.out⟩
            case round =>
              obtain ⟨k, hkn, rfl, rfl, hbel⟩ := hrel
              have hr2 := hk.keep hbel hbel.size
              have hc2 := KidsC.keep hbel hbel.size ks css hc
              have hcl := printK_take_len ks k
              obtain ⟨X, hX⟩ : ∃ X, X = T ++ [125] ++ 91 :: printK (ks.take k) := ⟨_, rfl⟩
              have hXl : X.length ≤ 30000000 := by rw [hX]; simp only [List.length_append, List.length_cons, List.length_nil]; omega
              rw [← hX]
              have HX := Lib.hid hX
              have Hb2 := Lib.hid hbel
              clear hbel hX hcl x0 x1 x2 x3
              by_cases hlt : k < ks.length
              · have Hss := Lib.hid (printK_succ hlt)
                have hkw := wtAll_mem (List.getElem_mem hlt)
                have hqe := HKe.out ks[k] (List.getElem_mem hlt)
                obtain ⟨b, off, l', a1, n1, c1, a2, n2, c2, a3, n3, c3, rfl, hb, hnc, g0, g1, g2, g3⟩ := hr2.kid_at hc2 k hlt
                generalize ks[k] = q at hnc hkw Hss hqe
                have hB := (((Below.refl wr.heap.size wr).alloc (Nat.le_refl _) (Obj.cells #[.bool l', .slice a1 n1 c1, .slice a2 n2 c2, .slice a3 n3 c3] 26)))
                have HC := Lib.hid (IH.out q (.agg #[.bool l', .slice a1 n1 c1, .slice a2 n2 c2, .slice a3 n3 c3]) _ (by omega) (by omega) hqe ⟨_, rfl, NodeC.keep hB hB.size _ _ hnc⟩)
                have hql : (printL q).length ≤ 25000000 := by have := printL_len q; omega
                clear hqe hB
                go_wp2_with fail
                refine HC.out.mono ?_
                rintro e w2 ⟨rfl, hbel⟩
                have Hb3 := Lib.hid ((Hb2.out.alloc Hb2.out.size _).trans (hbel.mono (by simp; have := Hb2.out.size; omega)))
                clear hbel
                go_wp2_with fail
                go_roundw
                case rel => exact ⟨k + 1, by omega, by go_num, congrArg Value.string (by rw [Hss.out, bytes_append, HX.out]; simp), Hb3.out⟩
                case measure => simp [intOf]; omega
              · obtain rfl : k = ks.length := by omega
                go_wp2_with fail
                go_ret
                refine ⟨congrArg (fun s => Ending.returned (Value.string s)) ?_, Hb2.out⟩
                rw [str_snoc, HX.out, List.take_length, Hpr.out, Hpe.out, if_neg (by have := Hnz.out; omega)]
                simp
        · have Hz : Hid (ps.length = 0 ∧ T = []) := by
            show ps.length = 0 ∧ T = []
            exact ⟨by omega, by apply List.eq_nil_of_length_eq_zero; omega⟩
          have hp1 : ps.length ≤ 0 := by omega
          have hpd : decide ((0 : Int) < (ps.length : Int)) = false := decide_eq_false (by omega)
          have hpd2 : decide (0 < ps.length) = false := decide_eq_false (by omega)
          clear hp0
          cases l with
          | true =>
            have HQ1 := HQ _ Hb1.out
            have hql := quoteL_len t
            go_wp2_with fail
            refine HQ1.out.mono ?_
            rintro e w2 ⟨rfl, hbel⟩
            have Hb2 := Lib.hid (Hb1.out.trans (hbel.mono Hb1.out.size))
            clear hbel HQ1
            go_wp2_with fail
            go_ret
            refine ⟨congrArg (fun s => Ending.returned (Value.string s)) ?_, Hb2.out⟩
            rw [bytes_append, Hpr.out, Hpe.out, if_pos Hz.out.1, Hz.out.2]; rfl
          | false =>
            go_wp2_with fail
            go_loopw [3, 55] (fun s i wr => ∃ k : Nat, k ≤ ks.length ∧ i = .int .i64 k ∧ s = .string ⟨(T ++ 91 :: printK (ks.take k)).toArray⟩ ∧ Below w.heap.size w wr) (fun _ i _ => ks.length - (intOf i).toNat)
            case atStart => exact ⟨0, Nat.zero_le _, rfl, congrArg Value.string (by rw [str_snoc]; rfl), Hb1.out⟩
            case round =>
              obtain ⟨k, hkn, rfl, rfl, hbel⟩ := hrel
              have hr2 := hk.keep hbel hbel.size
              have hc2 := KidsC.keep hbel hbel.size ks css hc
              have hcl := printK_take_len ks k
              obtain ⟨X, hX⟩ : ∃ X, X = T ++ 91 :: printK (ks.take k) := ⟨_, rfl⟩
              have hXl : X.length ≤ 30000000 := by rw [hX]; simp only [List.length_append, List.length_cons]; omega
              rw [← hX]
              have HX := Lib.hid hX
              have Hb2 := Lib.hid hbel
              clear hbel hX hcl x0 x1 x2 x3
              by_cases hlt : k < ks.length
              · have Hss := Lib.hid (printK_succ hlt)
                have hkw := wtAll_mem (List.getElem_mem hlt)
                have hqe := HKe.out ks[k] (List.getElem_mem hlt)
                obtain ⟨b, off, l', a1, n1, c1, a2, n2, c2, a3, n3, c3, rfl, hb, hnc, g0, g1, g2, g3⟩ := hr2.kid_at hc2 k hlt
                generalize ks[k] = q at hnc hkw Hss hqe
                have hB := (((Below.refl wr.heap.size wr).alloc (Nat.le_refl _) (Obj.cells #[.bool l', .slice a1 n1 c1, .slice a2 n2 c2, .slice a3 n3 c3] 26)))
                have HC := Lib.hid (IH.out q (.agg #[.bool l', .slice a1 n1 c1, .slice a2 n2 c2, .slice a3 n3 c3]) _ (by omega) (by omega) hqe ⟨_, rfl, NodeC.keep hB hB.size _ _ hnc⟩)
                have hql : (printL q).length ≤ 25000000 := by have := printL_len q; omega
                clear hqe hB
                go_wp2_with fail
                refine HC.out.mono ?_
                rintro e w2 ⟨rfl, hbel⟩
                have Hb3 := Lib.hid ((Hb2.out.alloc Hb2.out.size _).trans (hbel.mono (by simp; have := Hb2.out.size; omega)))
                clear hbel
                go_wp2_with fail
                go_roundw
                case rel => exact ⟨k + 1, by omega, by go_num, congrArg Value.string (by rw [Hss.out, bytes_append, HX.out]; simp), Hb3.out⟩
                case measure => simp [intOf]; omega
              · obtain rfl : k = ks.length := by omega
                go_wp2_with fail
                go_ret
                refine ⟨congrArg (fun s => Ending.returned (Value.string s)) ?_, Hb2.out⟩
                rw [str_snoc, HX.out, List.take_length, Hpr.out, Hpe.out, if_pos Hz.out.1, Hz.out.2]
                simp

set_option maxRecDepth 100000 in
set_option maxHeartbeats 1000000 in
theorem rprint_no (n : NodeD) (v : Value) (w : World) (hn : n.wt ≤ 1048576) (hv : NodeV w w.heap.size n v) (hE : nodeE n ≠ 0) :
    Calls Tryd.prog 9 #[v] w fun e w' => e = .returned (.tuple #[.string ⟨#[]⟩, .int .i64 (nodeE n)]) ∧ Below w.heap.size w w' := by
  have hv0 := hv
  obtain ⟨l, ps, t, ks⟩ := n
  obtain ⟨ap, cp, at_, ct, ak, ck, css, rfl, -, -, -, -⟩ := hv0.open
  generalize NodeD.mk l ps t ks = n at hv hn hE ⊢
  have hB0 := ((Below.refl w.heap.size w).alloc (Nat.le_refl _) (Obj.cells #[.bool l, .slice ap ps.length cp, .slice at_ t.length ct, .slice ak ks.length ck] 26))
  have HS := Lib.hid (rnCheck_c n _ _ hn (hv.keep hB0 hB0.size))
  have hne : (nodeE n != 0) = true := by simpa using hE
  clear hv0 hv hB0 hn hE
  go_enter Tryd.func9, Tryd.ntmps9
  go_wp2_with fail
  refine HS.out.mono ?_
  rintro e w1 ⟨rfl, hbel⟩
  have Hb1 := Lib.hid (below_unbox (below_box hbel))
  clear hbel HS
  go_wp2_with fail
  go_ret2
  exact ⟨rfl, Hb1.out⟩

set_option maxRecDepth 100000 in
set_option maxHeartbeats 1000000 in
theorem rprint_ok (n : NodeD) (v : Value) (w : World) (hn : n.wt ≤ 1048576) (hv : NodeV w w.heap.size n v) (hE : nodeE n = 0) :
    Calls Tryd.prog 9 #[v] w fun e w' => e = .returned (.tuple #[.string ⟨(printL n).toArray⟩, .int .i64 0]) ∧ Below w.heap.size w w' := by
  have hv0 := hv
  obtain ⟨l, ps, t, ks⟩ := n
  obtain ⟨ap, cp, at_, ct, ak, ck, css, rfl, -, -, -, -⟩ := hv0.open
  generalize NodeD.mk l ps t ks = n at hv hn hE ⊢
  have hB0 := ((Below.refl w.heap.size w).alloc (Nat.le_refl _) (Obj.cells #[.bool l, .slice ap ps.length cp, .slice at_ t.length ct, .slice ak ks.length ck] 26))
  have HS := Lib.hid (rnCheck_c n _ _ hn (hv.keep hB0 hB0.size))
  have HT := fun W (hW : Below w.heap.size w W) => Lib.hid (rtext_c _ n _ W (Nat.le_refl _) hn hE (hv.keep hW hW.size))
  rw [hE] at HS
  clear hv0 hv hB0 hn hE
  go_enter Tryd.func9, Tryd.ntmps9
  go_wp2_with fail
  refine HS.out.mono ?_
  rintro e w1 ⟨rfl, hbel⟩
  obtain ⟨x0, x1, x2, x3⟩ := box_keep (below_box hbel)
  have Hb1 := Lib.hid (below_unbox (below_box hbel))
  have HT1 := HT _ Hb1.out
  clear hbel HS HT
  go_wp2_with fail
  refine HT1.out.mono ?_
  rintro e w2 ⟨rfl, hbel⟩
  have Hb2 := Lib.hid (Hb1.out.trans (hbel.mono Hb1.out.size))
  clear hbel HT1
  go_wp2_with fail
  go_ret2
  exact ⟨rfl, Hb2.out⟩

end Go.Proofs.YtmhgbocejjnoaaaDoor
/- Walks: code.write. -/
namespace Go.Proofs.YtmhgbocejjnoaaaDoor
open Go.RowKit Go.Redl
set_option linter.unusedVariables false

theorem Bld.keep {w w' : World} {B b : Nat} {l : List UInt8} (h : Bld w B b l) (hb : Below w.heap.size w w') : Bld w' B b l := by
  rcases h with h | h
  · obtain ⟨hB, v, hbk, hown, hne⟩ := h
    have hlt : b < w.heap.size := (Array.getElem?_eq_some_iff.1 hbk).1
    exact .inl ⟨hB, v, (hb.block b hlt).trans hbk, own_keep hown hb, hne⟩
  · exact .inr (BldU.keep h hb)
theorem Bld.cast {w : World} {B b : Nat} {l l' : List UInt8} (h : Bld w B b l) (e : l = l') : Bld w B b l' := e ▸ h
theorem str_prop2 (K V : List UInt8) (c : UInt8) : ((((⟨#[c]⟩ : ByteArray) ++ ⟨K.toArray⟩) ++ ⟨#[58]⟩) ++ ⟨V.toArray⟩) = ⟨(c :: propL (K, V)).toArray⟩ := by
  rw [show (⟨#[c]⟩ : ByteArray) = ⟨[c].toArray⟩ from rfl, show (⟨#[58]⟩ : ByteArray) = ⟨[58].toArray⟩ from rfl, bytes_append, bytes_append, bytes_append]
  simp [propL]
theorem below_new (w : World) (o : Obj) : Below w.heap.size w (w.alloc o) := (Below.refl _ _).alloc (Nat.le_refl _) o

theorem printK_take_q {ks : List NodeD} {k : Nat} (h : k < ks.length) : (printK (ks.take k)).length + 22 * ks[k].wt ≤ 22 * wtAll ks := by
  have h1 := printK_len (ks.take k)
  have h2 := wtAll_take ks (k + 1)
  rw [List.take_succ_eq_append_getElem h, wtAll_append] at h2
  simp only [wtAll] at h2
  omega

/-- What writing leaves. -/
def WriteP (W : World) (B b : Nat) (l : List UInt8) (e : Ending) (w' : World) : Prop := e = .returned (.int .i64 0) ∧ BldU w' B b l ∧ Spares badBld B W w'

set_option maxRecDepth 100000 in
set_option maxHeartbeats 8000000 in
theorem write_c (B b : Nat) (hBb : B ≤ b) (hgB : 3 < B) (m : Nat) : ∀ (n : NodeD) (v : Value) (L : List UInt8) (W : World), n.wt ≤ m → n.wt ≤ 1048576 → nodeE n = 0 → L.length + 22 * n.wt ≤ 60000000 → NodeV W B n v → B ≤ W.heap.size → TabAt W → Bld W B b L →
    Calls Tryd.prog 19 #[.pointer (some ⟨b, 0, none⟩), v] W (WriteP W B b (L ++ printL n)) := by
  induction m with
  | zero => intro n v L W hm; have := wt_pos n; omega
  | succ m ih =>
    intro n v L W hm hn hE hL hv hB hT hbld
    obtain ⟨l, ps, t, ks⟩ := n
    obtain ⟨ap, cp, at_, ct, ak, ck, css, rfl, hp, ht, hk, hc⟩ := hv.open
    obtain ⟨-, hte, hke, hlk, hlt0⟩ := nodeE_zero hE
    have IH := Lib.hid ih
    have hwt : 1 + propsWt ps + t.length + wtAll ks = (NodeD.mk l ps t ks).wt := rfl
    have hw2 : wtAll ks ≤ 1048576 := by omega
    have hw3 : wtAll ks ≤ m := by omega
    have hw4 : propsWt ps ≤ 1048576 := by omega
    have hkl := wtAll_len ks
    have htl : t.length ≤ 1048576 := by omega
    have hpl := propsWt_len ps
    have hLl : L.length + 22 * (1 + propsWt ps + t.length + wtAll ks) ≤ 60000000 := by omega
    have Hpr : Hid (printL (.mk l ps t ks) = propsL ps ++ (if l then quoteL t else 91 :: (printK ks ++ [93]))) := rfl
    have HQ := fun W' (hW : Below B W W') (hs : B ≤ W'.heap.size) => Lib.hid (quote_ok _ _ t W' (ht.keep hW (Nat.le_refl _)) hs hte (by omega) (hT.keep hW hgB) (Nat.lt_of_lt_of_le hgB hs))
    have HT := fun W' (hW : Below B W W') => Lib.hid (hT.keep hW hgB)
    have HKe := Lib.hid (kidsE_mem hke)
    have hpm := propsC_len ps 123
    have Hpe : Hid (propsL ps = if ps.length = 0 then [] else propsC 123 ps ++ [125]) := rfl
    have HS0 := Lib.hid ((Spares.refl (bad := badBld) hB).alloc hB (Obj.cells #[.bool l, .slice ap ps.length cp, .slice at_ t.length ct, .slice ak ks.length ck] 26))
    have HB0 := Lib.hid (Bld.keep hbld (below_new W (Obj.cells #[.bool l, .slice ap ps.length cp, .slice at_ t.length ct, .slice ak ks.length ck] 26)))
    clear ih hv ht hwt hm hn hte hke hlk hlt0 hE hT hbld hL
    go_enter Tryd.func19, Tryd.ntmps19
    go_wp2_with fail
    go_loopw [16] (fun i wr => ∃ k : Nat, k ≤ ps.length ∧ i = .int .i64 k ∧ Bld wr B b (L ++ propsC 123 (ps.take k)) ∧ Spares badBld B (W.alloc (Obj.cells #[.bool l, .slice ap ps.length cp, .slice at_ t.length ct, .slice ak ks.length ck] 26)) wr) (fun i _ => ps.length - (intOf i).toNat)
    case atStart => exact ⟨0, Nat.zero_le _, rfl, HB0.out.cast (by simp [propsC]), Spares.refl (by simp; omega)⟩
    case round =>
      obtain ⟨k, hkn, rfl, hbld, hsp⟩ := hrel
      have hr2 := hp.keep (HS0.out.trans hsp).below (Nat.le_refl _)
      have hcl := propsC_len (ps.take k) 123
      have hck := propsWt_take ps k
      have hBw : B ≤ wr.heap.size := Nat.le_trans hB (Nat.le_trans HS0.out.size hsp.size)
      by_cases hlt : k < ps.length
      · have Hbld := Lib.hid hbld; have Hsp := Lib.hid hsp
        have Hss := Lib.hid (propsC_succ ps 123 k hlt)
        have hcw := propsWt_mem (List.getElem_mem hlt)
        obtain ⟨bb, off, rfl, hb, g0, g1⟩ := hr2.prop_at k hlt
        generalize ps[k] = p at hcw g0 g1 Hss
        obtain ⟨p1, p2⟩ := p
        simp only at hcw g0 g1 Hss
        generalize propsC 123 (ps.take k) = T at hcl Hss Hbld
        have hTl : T.length ≤ 1048576 := by omega
        have hl1 : p1.length ≤ 1048576 := by omega
        have hl2 : p2.length ≤ 1048576 := by omega
        have hLT : (L ++ T).length ≤ 80000000 := by simp only [List.length_append]; omega
        have HW := fun (c : UInt8) => Lib.hid (writeStringS_c B b (L ++ T) (c :: propL (p1, p2)) (wr.alloc (Obj.cells #[.string ⟨p1.toArray⟩, .string ⟨p2.toArray⟩] 47)) (Hbld.out.keep (below_new _ _)) (by simp only [propL, List.length_cons, List.length_append] at *; omega) (by simp; omega))
        clear hbld hsp hcl hck hcw hLT
        cases k with
        | zero =>
          rw [Nat.zero_mul, Nat.add_zero] at g0 g1
          have HW1 := HW 123
          clear HW
          go_wp2_with fail
          rw [str_prop2]
          refine HW1.out.mono ?_
          rintro e w2 ⟨rfl, hbld2, hsp2⟩
          have Hb2 := Lib.hid hbld2.bld; have Hs2 := Lib.hid ((Hsp.out.alloc (by simp; omega) _).trans hsp2)
          clear hbld2 hsp2 HW1
          go_wp2_with fail
          go_roundw
          case rel => exact ⟨1, by omega, by go_num, Hb2.out.cast (by rw [Hss.out]; simp), Hs2.out⟩
          case measure => simp [intOf]; omega
        | succ j =>
          have hj0 : (((j + 1 : Nat) : Int) == 0) = false := by simp only [beq_eq_false_iff_ne, ne_eq]; omega
          have hj1 : (((j : Int) + 1) == 0) = false := by simp only [beq_eq_false_iff_ne, ne_eq]; omega
          have HW1 := HW 44
          clear HW
          go_wp2_with fail
          rw [str_prop2]
          refine HW1.out.mono ?_
          rintro e w2 ⟨rfl, hbld2, hsp2⟩
          have Hb2 := Lib.hid hbld2.bld; have Hs2 := Lib.hid ((Hsp.out.alloc (by simp; omega) _).trans hsp2)
          clear hbld2 hsp2 HW1
          go_wp2_with fail
          go_roundw
          case rel => exact ⟨j + 1 + 1, by omega, by go_num, Hb2.out.cast (by rw [Hss.out]; simp), Hs2.out⟩
          case measure => simp [intOf]; omega
      · obtain rfl : k = ps.length := by omega
        rw [List.take_length] at hcl hbld
        obtain ⟨x0, x1, x2, x3⟩ := hsp.box4 rfl
        have hT0 : 0 < ps.length ∨ propsC 123 ps = [] := by
          rcases Nat.eq_zero_or_pos ps.length with h | h
          · right; rw [List.eq_nil_of_length_eq_zero h]; simp [propsC]
          · exact .inl h
        generalize propsC 123 ps = T at hpm Hpe hbld hT0 hcl
        have hTl : T.length ≤ propsWt ps := by omega
        have Hbld := Lib.hid hbld; have Hsp := Lib.hid hsp; have HT0 := Lib.hid hT0
        have hszl : W.heap.size < wr.heap.size := by have := hsp.size; simp at this; omega
        clear hbld hsp hpm hcl hck hT0
        by_cases hp0 : 0 < ps.length
        · have Hnz := Lib.hid hp0
          have HWb := Lib.hid (writeByteS_n B b (L ++ T) 125 125 rfl wr Hbld.out (by simp only [List.length_append]; omega) hBw)
          go_wp2_with fail
          refine HWb.out.mono ?_
          rintro e w1 ⟨rfl, hbld, hsp1⟩
          have Hb1 := Lib.hid hbld; have Hs1 := Lib.hid (Hsp.out.trans hsp1)
          obtain ⟨y0, y1, y2, y3⟩ := Hs1.out.box4 rfl
          have HPL : Hid (L ++ T ++ [125] = L ++ propsL ps) := by
            show L ++ T ++ [125] = L ++ propsL ps
            rw [Hpe.out, if_neg (by have := Hnz.out; omega)]; simp
          have hszl1 : W.heap.size < w1.heap.size := by have := Hs1.out.size; simp at this; omega
          have hBw1 : B ≤ w1.heap.size := by omega
          have Hb1' := Lib.hid (Hb1.out.cast HPL.out).bld
          clear hbld hsp1 HWb x0 x1 x2 x3 Hb1 hszl hBw
          have hppl := propsL_len ps
          cases l with
          | true =>
            have HQ1 := HQ w1 (HS0.out.trans Hs1.out).below hBw1
            have hql := quoteL_len t
            go_wp2_with fail
            refine HQ1.out.mono ?_
            rintro e w3 ⟨rfl, hbel⟩
            have HWs := Lib.hid (writeStringS_c B b (L ++ propsL ps) (quoteL t) w3 (Hb1'.out.keep hbel) (by simp only [List.length_append]; omega) (Nat.le_trans hBw1 hbel.size))
            have Hs3 := Lib.hid (Hs1.out.more hbel (by simp; omega))
            clear hbel HQ1
            go_wp2_with fail
            refine HWs.out.mono ?_
            rintro e w4 ⟨rfl, hbld, hsp⟩
            have Hb4 := Lib.hid hbld; have Hs4 := Lib.hid (Hs3.out.trans hsp)
            clear hbld hsp HWs
            go_wp2_with fail
            go_ret
            exact ⟨rfl, Hb4.out.cast (by rw [Hpr.out]; simp), HS0.out.trans Hs4.out⟩
          | false =>
            have HWb1 := Lib.hid (writeByteS_n B b (L ++ propsL ps) 91 91 rfl w1 Hb1'.out (by simp only [List.length_append]; omega) hBw1)
            go_wp2_with fail
            refine HWb1.out.mono ?_
            rintro e w3 ⟨rfl, hbld, hsp⟩
            have Hb3 := Lib.hid hbld; have Hs3 := Lib.hid (Hs1.out.trans hsp)
            obtain ⟨z0, z1, z2, z3⟩ := Hs3.out.box4 rfl
            have hsz3 : W.heap.size < w3.heap.size := by have := Hs3.out.size; simp at this; omega
            clear hbld hsp HWb1 y0 y1 y2 y3
            go_wp2_with fail
            go_loopw [57] (fun i wr => ∃ k : Nat, k ≤ ks.length ∧ i = .int .i64 k ∧ BldU wr B b (L ++ propsL ps ++ 91 :: printK (ks.take k)) ∧ Spares badBld B (W.alloc (Obj.cells #[.bool false, .slice ap ps.length cp, .slice at_ t.length ct, .slice ak ks.length ck] 26)) wr) (fun i _ => ks.length - (intOf i).toNat)
            case atStart => exact ⟨0, Nat.zero_le _, rfl, Hb3.out.cast (by simp [printK]), Hs3.out⟩
            case round =>
              obtain ⟨k, hkn, rfl, hbld, hsp⟩ := hrel
              have hW0 := (HS0.out.trans hsp).below
              have hr2 := hk.keep hW0 (Nat.le_refl _)
              have hc2 := KidsC.keep hW0 (Nat.le_refl _) ks css hc
              have hBw : B ≤ wr.heap.size := Nat.le_trans hB (Nat.le_trans HS0.out.size hsp.size)
              have hcl := printK_take_len ks k
              obtain ⟨X, hX⟩ : ∃ X, X = L ++ propsL ps ++ 91 :: printK (ks.take k) := ⟨_, rfl⟩
              have hXl : X.length = L.length + (propsL ps).length + 1 + (printK (ks.take k)).length := by rw [hX]; simp only [List.length_append, List.length_cons]; omega
              rw [← hX] at hbld
              have HX := Lib.hid hX
              have Hbld := Lib.hid hbld; have Hsp := Lib.hid hsp; have HW0 := Lib.hid hW0
              clear hbld hsp hX hW0 z0 z1 z2 z3
              by_cases hlt : k < ks.length
              · have Hss := Lib.hid (printK_succ hlt)
                have hkw := wtAll_mem (List.getElem_mem hlt)
                have hkq := printK_take_q hlt
                have hqe := HKe.out ks[k] (List.getElem_mem hlt)
                obtain ⟨bb, off, l', a1, n1, c1, a2, n2, c2, a3, n3, c3, rfl, hb, hnc, g0, g1, g2, g3⟩ := hr2.kid_at hc2 k hlt
                generalize ks[k] = q at hnc hkw Hss hqe hkq
                have hBx := below_new wr (Obj.cells #[.bool l', .slice a1 n1 c1, .slice a2 n2 c2, .slice a3 n3 c3] 26)
                have HC := Lib.hid (IH.out q (.agg #[.bool l', .slice a1 n1 c1, .slice a2 n2 c2, .slice a3 n3 c3]) X _ (by omega) (by omega) hqe (by omega) ⟨_, rfl, NodeC.keep (hBx.mono hBw) (Nat.le_refl _) _ _ hnc⟩ (Nat.le_trans hBw hBx.size) (HT _ (HW0.out.trans (hBx.mono hBw))).out (Bld.keep Hbld.out.bld hBx))
                clear hqe hBx hkq hXl hcl
                go_wp2_with fail
                refine HC.out.mono ?_
                rintro e w4 ⟨rfl, hbld, hsp⟩
                have Hb4 := Lib.hid hbld; have Hs4 := Lib.hid ((Hsp.out.alloc (by simp; omega) _).trans hsp)
                clear hbld hsp HC
                go_wp2_with fail
                go_roundw
                case rel => exact ⟨k + 1, by omega, by go_num, Hb4.out.cast (by rw [Hss.out, HX.out]; simp), Hs4.out⟩
                case measure => simp [intOf]; omega
              · obtain rfl : k = ks.length := by omega
                have HWe := Lib.hid (writeByteS_n B b X 93 93 rfl wr Hbld.out.bld (by omega) hBw)
                clear hXl hcl
                go_wp2_with fail
                refine HWe.out.mono ?_
                rintro e w4 ⟨rfl, hbld, hsp⟩
                have Hb4 := Lib.hid hbld; have Hs4 := Lib.hid (Hsp.out.trans hsp)
                clear hbld hsp HWe
                go_wp2_with fail
                go_ret
                exact ⟨rfl, Hb4.out.cast (by rw [HX.out, Hpr.out, List.take_length]; simp), HS0.out.trans Hs4.out⟩
        · have Hz : Hid (ps.length = 0 ∧ T = []) := by
            show ps.length = 0 ∧ T = []
            exact ⟨by omega, HT0.out.elim (fun h => absurd h hp0) id⟩
          have hp1 : ps.length ≤ 0 := by omega
          have hpd : decide ((0 : Int) < (ps.length : Int)) = false := decide_eq_false (by omega)
          have hpd2 : decide (0 < ps.length) = false := decide_eq_false (by omega)
          have Hb1' : Hid (Bld wr B b (L ++ propsL ps)) := by
            show Bld wr B b (L ++ propsL ps)
            refine Hbld.out.cast ?_
            rw [Hpe.out, if_pos Hz.out.1, Hz.out.2]
          have hBwr := hBw
          clear hp0 Hbld hBw
          have hppl := propsL_len ps
          cases l with
          | true =>
            have HQ1 := HQ wr (HS0.out.trans Hsp.out).below hBwr
            have hql := quoteL_len t
            go_wp2_with fail
            refine HQ1.out.mono ?_
            rintro e w3 ⟨rfl, hbel⟩
            have HWs := Lib.hid (writeStringS_c B b (L ++ propsL ps) (quoteL t) w3 (Hb1'.out.keep hbel) (by simp only [List.length_append]; omega) (Nat.le_trans hBwr hbel.size))
            have Hs3 := Lib.hid (Hsp.out.more hbel (by simp; omega))
            clear hbel HQ1
            go_wp2_with fail
            refine HWs.out.mono ?_
            rintro e w4 ⟨rfl, hbld, hsp⟩
            have Hb4 := Lib.hid hbld; have Hs4 := Lib.hid (Hs3.out.trans hsp)
            clear hbld hsp HWs
            go_wp2_with fail
            go_ret
            exact ⟨rfl, Hb4.out.cast (by rw [Hpr.out]; simp), HS0.out.trans Hs4.out⟩
          | false =>
            have HWb1 := Lib.hid (writeByteS_n B b (L ++ propsL ps) 91 91 rfl wr Hb1'.out (by simp only [List.length_append]; omega) hBwr)
            go_wp2_with fail
            refine HWb1.out.mono ?_
            rintro e w3 ⟨rfl, hbld, hsp⟩
            have Hb3 := Lib.hid hbld; have Hs3 := Lib.hid (Hsp.out.trans hsp)
            obtain ⟨z0, z1, z2, z3⟩ := Hs3.out.box4 rfl
            have hsz3 : W.heap.size < w3.heap.size := by have := Hs3.out.size; simp at this; omega
            clear hbld hsp HWb1 x0 x1 x2 x3
            go_wp2_with fail
            go_loopw [57] (fun i wr => ∃ k : Nat, k ≤ ks.length ∧ i = .int .i64 k ∧ BldU wr B b (L ++ propsL ps ++ 91 :: printK (ks.take k)) ∧ Spares badBld B (W.alloc (Obj.cells #[.bool false, .slice ap ps.length cp, .slice at_ t.length ct, .slice ak ks.length ck] 26)) wr) (fun i _ => ks.length - (intOf i).toNat)
            case atStart => exact ⟨0, Nat.zero_le _, rfl, Hb3.out.cast (by simp [printK]), Hs3.out⟩
            case round =>
              obtain ⟨k, hkn, rfl, hbld, hsp⟩ := hrel
              have hW0 := (HS0.out.trans hsp).below
              have hr2 := hk.keep hW0 (Nat.le_refl _)
              have hc2 := KidsC.keep hW0 (Nat.le_refl _) ks css hc
              have hBw : B ≤ wr.heap.size := Nat.le_trans hB (Nat.le_trans HS0.out.size hsp.size)
              have hcl := printK_take_len ks k
              obtain ⟨X, hX⟩ : ∃ X, X = L ++ propsL ps ++ 91 :: printK (ks.take k) := ⟨_, rfl⟩
              have hXl : X.length = L.length + (propsL ps).length + 1 + (printK (ks.take k)).length := by rw [hX]; simp only [List.length_append, List.length_cons]; omega
              rw [← hX] at hbld
              have HX := Lib.hid hX
              have Hbld := Lib.hid hbld; have Hsp := Lib.hid hsp; have HW0 := Lib.hid hW0
              clear hbld hsp hX hW0 z0 z1 z2 z3
              by_cases hlt : k < ks.length
              · have Hss := Lib.hid (printK_succ hlt)
                have hkw := wtAll_mem (List.getElem_mem hlt)
                have hkq := printK_take_q hlt
                have hqe := HKe.out ks[k] (List.getElem_mem hlt)
                obtain ⟨bb, off, l', a1, n1, c1, a2, n2, c2, a3, n3, c3, rfl, hb, hnc, g0, g1, g2, g3⟩ := hr2.kid_at hc2 k hlt
                generalize ks[k] = q at hnc hkw Hss hqe hkq
                have hBx := below_new wr (Obj.cells #[.bool l', .slice a1 n1 c1, .slice a2 n2 c2, .slice a3 n3 c3] 26)
                have HC := Lib.hid (IH.out q (.agg #[.bool l', .slice a1 n1 c1, .slice a2 n2 c2, .slice a3 n3 c3]) X _ (by omega) (by omega) hqe (by omega) ⟨_, rfl, NodeC.keep (hBx.mono hBw) (Nat.le_refl _) _ _ hnc⟩ (Nat.le_trans hBw hBx.size) (HT _ (HW0.out.trans (hBx.mono hBw))).out (Bld.keep Hbld.out.bld hBx))
                clear hqe hBx hkq hXl hcl
                go_wp2_with fail
                refine HC.out.mono ?_
                rintro e w4 ⟨rfl, hbld, hsp⟩
                have Hb4 := Lib.hid hbld; have Hs4 := Lib.hid ((Hsp.out.alloc (by simp; omega) _).trans hsp)
                clear hbld hsp HC
                go_wp2_with fail
                go_roundw
                case rel => exact ⟨k + 1, by omega, by go_num, Hb4.out.cast (by rw [Hss.out, HX.out]; simp), Hs4.out⟩
                case measure => simp [intOf]; omega
              · obtain rfl : k = ks.length := by omega
                have HWe := Lib.hid (writeByteS_n B b X 93 93 rfl wr Hbld.out.bld (by omega) hBw)
                clear hXl hcl
                go_wp2_with fail
                refine HWe.out.mono ?_
                rintro e w4 ⟨rfl, hbld, hsp⟩
                have Hb4 := Lib.hid hbld; have Hs4 := Lib.hid (Hsp.out.trans hsp)
                clear hbld hsp HWe
                go_wp2_with fail
                go_ret
                exact ⟨rfl, Hb4.out.cast (by rw [HX.out, Hpr.out, List.take_length]; simp), HS0.out.trans Hs4.out⟩

end Go.Proofs.YtmhgbocejjnoaaaDoor
