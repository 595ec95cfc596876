/- Walks: node's walk: a function asked at each node, in order, till it says no. -/
import Derived.Test.YtmhgbocejjnoaaaDoorRW3
namespace Go.Proofs.YtmhgbocejjnoaaaDoor
open Go.RowKit Go.Redl
set_option linter.unusedVariables false

section
variable {S : Type} (go : NodeD → Bool) (st : NodeD → S → S)
mutual
/-- What such a walk answers, and the state that it leaves. -/
def eachS : NodeD → S → Bool × S
  | .mk l ps t ks, s => if go (.mk l ps t ks) then kidsS ks (st (.mk l ps t ks) s) else (false, st (.mk l ps t ks) s)
def kidsS : List NodeD → S → Bool × S
  | [], s => (true, s)
  | k :: ks, s => if (eachS k s).1 then kidsS ks (eachS k s).2 else (false, (eachS k s).2)
end
theorem kidsS_step {ks : List NodeD} {k : Nat} {s : S} (h : k < ks.length) : kidsS go st (ks.drop k) s = if (eachS go st ks[k] s).1 then kidsS go st (ks.drop (k + 1)) (eachS go st ks[k] s).2 else (false, (eachS go st ks[k] s).2) := by
  conv => lhs; rw [List.drop_eq_getElem_cons h]
  simp only [kidsS]
end

/-- The asked function's contract. -/
def AskC {S : Type} (Φ : S → World → Prop) (bad : TypeId → Bool) (B cb : Nat) (caps : Array Value) (go : NodeD → Bool) (st : NodeD → S → S) (M : Nat) : Prop :=
  ∀ (n : NodeD) (v : Value) (s : S) (W : World), n.wt ≤ M → NodeV W B n v → B ≤ W.heap.size → Φ s W →
    Calls Tryd.prog cb (#[v] ++ caps) W fun e w' => e = .returned (.bool (go n)) ∧ Φ (st n s) w' ∧ Spares bad B W w'
/-- The walk's two variables. -/
def EnvAt (W : World) (tb eb cb : Nat) (caps : Array Value) : Prop :=
  W.heap[tb]? = some (Obj.cells #[.func (.func cb) #[] caps] 32 (0, 0)) ∧ W.heap[eb]? = some (Obj.cells #[.func (.func 59) #[] #[.pointer (some ⟨tb, 0, none⟩), .pointer (some ⟨eb, 0, none⟩)]] 32 (0, 0))
theorem EnvAt.keep {W W' : World} {tb eb cb B : Nat} {caps : Array Value} {bad : TypeId → Bool} (h : EnvAt W tb eb cb caps) (hs : Spares bad B W W') (hb : bad 32 = false) : EnvAt W' tb eb cb caps :=
  ⟨hs.block _ _ _ _ h.1 hb, hs.block _ _ _ _ h.2 hb⟩
theorem EnvAt.cells {W : World} {tb eb cb : Nat} {caps : Array Value} (h : EnvAt W tb eb cb caps) :
    W.cell? ⟨tb, 0, none⟩ = some (.func (.func cb) #[] caps) ∧ W.cell? ⟨eb, 0, none⟩ = some (.func (.func 59) #[] #[.pointer (some ⟨tb, 0, none⟩), .pointer (some ⟨eb, 0, none⟩)]) ∧ tb < W.heap.size ∧ eb < W.heap.size :=
  ⟨by rw [cell_of_row _ _ _ _ _ _ h.1]; rfl, by rw [cell_of_row _ _ _ _ _ _ h.2]; rfl, (Array.getElem?_eq_some_iff.1 h.1).1, (Array.getElem?_eq_some_iff.1 h.2).1⟩
/-- What a call of the walk's own function leaves. -/
def EachP {S : Type} (Φ : S → World → Prop) (bad : TypeId → Bool) (B : Nat) (W : World) (b : Bool) (s : S) (e : Ending) (w' : World) : Prop := e = .returned (.bool b) ∧ Φ s w' ∧ Spares bad B W w'
/-- What IndexFunc leaves there. -/
def IdxP {S : Type} (Φ : S → World → Prop) (bad : TypeId → Bool) (B : Nat) (W : World) (b : Bool) (s : S) (e : Ending) (w' : World) : Prop := ∃ i : Int, e = .returned (.int .i64 i) ∧ decide (0 ≤ i) = !b ∧ Φ s w' ∧ Spares bad B W w'

section
variable {S : Type} {Φ : S → World → Prop} {bad : TypeId → Bool} {B tb eb cb : Nat} {caps : Array Value} {go : NodeD → Bool} {st : NodeD → S → S} {M : Nat}

set_option maxRecDepth 100000 in
set_option maxHeartbeats 1000000 in
theorem kid_c (hΦ : ∀ s W W', Φ s W → Below W.heap.size W W' → Φ s W') (hbad : bad 32 = false) (q : NodeD) (v : Value) (s : S) (W : World) (hE : EnvAt W tb eb cb caps) (hv : NodeV W B q v) (hB : B ≤ W.heap.size) (hs : Φ s W)
    (hC : ∀ W', NodeV W' B q v → B ≤ W'.heap.size → EnvAt W' tb eb cb caps → Φ s W' → Calls Tryd.prog 59 #[v, .pointer (some ⟨tb, 0, none⟩), .pointer (some ⟨eb, 0, none⟩)] W' (EachP Φ bad B W' (eachS go st q s).1 (eachS go st q s).2)) :
    Calls Tryd.prog 61 #[v, .pointer (some ⟨eb, 0, none⟩)] W (EachP Φ bad B W (!(eachS go st q s).1) (eachS go st q s).2) := by
  have hv0 := hv
  obtain ⟨l, ps, t, ks⟩ := q
  obtain ⟨ap, cp, at_, ct, ak, ck, css, rfl, -, -, -, -⟩ := hv0.open
  generalize NodeD.mk l ps t ks = q at hv hC ⊢
  generalize eachS go st q s = r at hC ⊢
  obtain ⟨b, s'⟩ := r
  have hS0 : Spares bad B W (W.alloc (Obj.cells #[.bool l, .slice ap ps.length cp, .slice at_ t.length ct, .slice ak ks.length ck] 26)) := (Spares.refl hB).alloc hB _
  have HC := Lib.hid (hC _ (hv.keep hS0.below (Nat.le_refl _)) (Nat.le_trans hB hS0.size) (hE.keep hS0 hbad) (hΦ _ _ _ hs ((Below.refl _ _).alloc (Nat.le_refl _) _)))
  obtain ⟨e1, e2, l1, l2⟩ := hE.cells
  have HS0 := Lib.hid hS0
  clear hC hv0 hv hE hs hS0 e1
  go_enter Tryd.func61, Tryd.ntmps61
  go_wp2_with fail
  refine HC.out.mono ?_
  rintro e w1 ⟨rfl, hφ, hsp⟩
  have Hφ := Lib.hid hφ
  have HS := Lib.hid (HS0.out.trans hsp)
  clear hφ hsp HC
  go_wp2_with fail
  go_ret
  exact ⟨rfl, Hφ.out, HS.out⟩

set_option maxRecDepth 100000 in
set_option maxHeartbeats 1000000 in
theorem idxKids_c (ks : List NodeD) (a : Option Addr) (cap : Nat) (css : List Value) (s : S) (W : World) (hE : EnvAt W tb eb cb caps) (hbad : bad 32 = false) (hr : RowA W B 4 a ks.length cap css) (hk : KidsC W B ks css) (hB : B ≤ W.heap.size) (hs : Φ s W)
    (hC : ∀ (q : NodeD) (v : Value) (s : S) (W' : World), q ∈ ks → NodeV W' B q v → B ≤ W'.heap.size → EnvAt W' tb eb cb caps → Φ s W' → Calls Tryd.prog 61 #[v, .pointer (some ⟨eb, 0, none⟩)] W' (EachP Φ bad B W' (!(eachS go st q s).1) (eachS go st q s).2)) :
    Calls Tryd.prog 74 #[.slice a ks.length cap, .func (.func 61) #[] #[.pointer (some ⟨eb, 0, none⟩)]] W (IdxP Φ bad B W (kidsS go st ks s).1 (kidsS go st ks s).2) := by
  have HC := Lib.hid hC; have HE := Lib.hid hE
  have hm := props_len hr
  have Hst := fun (s' : S) (W' : World) (h : Φ s' W') => h
  have Hs := Lib.hid hs
  obtain ⟨R, hR⟩ : ∃ R, R = kidsS go st ks s := ⟨_, rfl⟩
  rw [← hR]
  have HR := Lib.hid hR
  clear hC hE hs Hst hR
  go_enter Tryd.func74, Tryd.ntmps74
  go_wp2_with fail
  go_loopw [8] (fun i wr => ∃ (k : Nat) (s' : S), k ≤ ks.length ∧ i = .int .i64 k ∧ kidsS go st (ks.drop k) s' = R ∧ Φ s' wr ∧ Spares bad B W wr) (fun i _ => ks.length - (intOf i).toNat)
  case atStart => exact ⟨0, s, Nat.zero_le _, rfl, HR.out.symm, Hs.out, Spares.refl hB⟩
  case round =>
    obtain ⟨k, s', hkn, rfl, hke, hφ, hsp⟩ := hrel
    have hr2 := hr.keep hsp.below (Nat.le_refl _)
    have hc2 := KidsC.keep hsp.below (Nat.le_refl _) ks css hk
    have Hke := Lib.hid hke; have Hφ := Lib.hid hφ; have Hsp := Lib.hid hsp
    clear hke hφ hsp
    by_cases hlt : k < ks.length
    · have Hss := Lib.hid (kidsS_step go st (s := s') hlt)
      have hmem := List.getElem_mem hlt
      obtain ⟨b, off, l', a1, n1, c1, a2, n2, c2, a3, n3, c3, rfl, hb, hnc, g0, g1, g2, g3⟩ := hr2.kid_at hc2 k hlt
      generalize ks[k] = q at hnc hmem Hss
      have HC1 := Lib.hid (HC.out q (.agg #[.bool l', .slice a1 n1 c1, .slice a2 n2 c2, .slice a3 n3 c3]) s' wr hmem ⟨_, rfl, hnc⟩ (Nat.le_trans hB Hsp.out.size) (HE.out.keep Hsp.out hbad) Hφ.out)
      have he : ∀ args w, (callFunc 61 args).run Tryd.prog w = .ok (.enter 61 args) w := by intro args w; kernel_rfl
      generalize eachS go st q s' = r at HC1 Hss
      obtain ⟨b', s2⟩ := r
      clear hmem hnc hr2 hc2
      cases b' with
      | true =>
        have HR2 : Hid (kidsS go st (ks.drop (k + 1)) s2 = R) := by
          show kidsS go st _ _ = R
          rw [← Hke.out, Hss.out]; rfl
        go_wp2_with fail
        refine HC1.out.mono ?_
        rintro e w1 ⟨rfl, hφ, hsp⟩
        have Hφ2 := Lib.hid hφ; have Hsp2 := Lib.hid (Hsp.out.trans hsp)
        clear hφ hsp
        go_wp2_with fail
        go_roundw
        case rel => exact ⟨k + 1, s2, by omega, by go_num, HR2.out, Hφ2.out, Hsp2.out⟩
        case measure => simp [intOf]; omega
      | false =>
        have HR2 : Hid ((false, s2) = R) := by
          show _ = R
          rw [← Hke.out, Hss.out]; rfl
        go_wp2_with fail
        refine HC1.out.mono ?_
        rintro e w1 ⟨rfl, hφ, hsp⟩
        have Hφ2 := Lib.hid hφ; have Hsp2 := Lib.hid (Hsp.out.trans hsp)
        clear hφ hsp
        go_wp2_with fail
        go_ret
        refine ⟨(k : Int), rfl, ?_, ?_, Hsp2.out⟩
        · rw [← HR2.out]; simp
        · rw [← HR2.out]; exact Hφ2.out
    · obtain rfl : k = ks.length := by omega
      have HR2 : Hid ((true, s') = R) := by
        show _ = R
        rw [← Hke.out, List.drop_length]; rfl
      go_wp2_with fail
      go_ret
      refine ⟨-1, rfl, ?_, ?_, Hsp.out⟩
      · rw [← HR2.out]; rfl
      · rw [← HR2.out]; exact Hφ.out

set_option maxRecDepth 100000 in
set_option maxHeartbeats 1000000 in
theorem hasKids_c (a : Option Addr) (n cap : Nat) (b : Bool) (s' : S) (W : World) (f : Value)
    (hC : Calls Tryd.prog 74 #[.slice a n cap, f] W (IdxP Φ bad B W b s')) :
    Calls Tryd.prog 60 #[.slice a n cap, f] W (EachP Φ bad B W (!b) s') := by
  have HC := Lib.hid hC
  clear hC
  go_enter Tryd.func60, Tryd.ntmps60
  go_wp2_with fail
  refine HC.out.mono ?_
  rintro e w1 ⟨i, rfl, hi, hφ, hsp⟩
  have Hφ := Lib.hid hφ; have Hsp := Lib.hid hsp; have Hi := Lib.hid hi
  clear hφ hsp hi HC
  go_wp2_with fail
  go_ret
  exact ⟨ret_bool Hi.out, Hφ.out, Hsp.out⟩

set_option maxRecDepth 100000 in
set_option maxHeartbeats 2000000 in
theorem each_c (hΦ : ∀ s W W', Φ s W → Below W.heap.size W W' → Φ s W') (hb1 : bad 32 = false) (hb2 : bad 26 = false) (hcb : ∀ args w, (callFunc cb args).run Tryd.prog w = .ok (.enter cb args) w) (hA : AskC Φ bad B cb caps go st M) (m : Nat) :
    ∀ (n : NodeD) (v : Value) (s : S) (W : World), n.wt ≤ m → n.wt ≤ M → NodeV W B n v → B ≤ W.heap.size → EnvAt W tb eb cb caps → Φ s W →
      Calls Tryd.prog 59 #[v, .pointer (some ⟨tb, 0, none⟩), .pointer (some ⟨eb, 0, none⟩)] W (EachP Φ bad B W (eachS go st n s).1 (eachS go st n s).2) := by
  induction m with
  | zero => intro n v s W hm; have := wt_pos n; omega
  | succ m ih =>
    intro n v s W hm hM hv hB hE hs
    have IH := Lib.hid ih
    have hv0 := hv
    obtain ⟨l, ps, t, ks⟩ := n
    obtain ⟨ap, cp, at_, ct, ak, ck, css, rfl, hp, ht, hk, hc⟩ := hv0.open
    have hwt : 1 + propsWt ps + t.length + wtAll ks = (NodeD.mk l ps t ks).wt := rfl
    have hw3 : ∀ q ∈ ks, q.wt ≤ m ∧ q.wt ≤ M := fun q hq => by have := wtAll_mem hq; omega
    have Hw3 := Lib.hid hw3
    have hR : Hid (eachS go st (.mk l ps t ks) s = if go (.mk l ps t ks) then kidsS go st ks (st (.mk l ps t ks) s) else (false, st (.mk l ps t ks) s)) := rfl
    have hS0 : Spares bad B W (W.alloc (Obj.cells #[.bool l, .slice ap ps.length cp, .slice at_ t.length ct, .slice ak ks.length ck] 26)) := (Spares.refl hB).alloc hB _
    have HA := Lib.hid (hA (.mk l ps t ks) _ s _ hM (hv.keep hS0.below (Nat.le_refl _)) (Nat.le_trans hB hS0.size) (hΦ _ _ _ hs ((Below.refl _ _).alloc (Nat.le_refl _) _)))
    obtain ⟨e1, e2, l1, l2⟩ := hE.cells
    have HS0 := Lib.hid hS0; have HE := Lib.hid hE
    have Hk := Lib.hid hk; have Hc := Lib.hid hc
    generalize st (.mk l ps t ks) s = s1 at HA hR
    obtain ⟨R, hRR⟩ : ∃ R, R = eachS go st (.mk l ps t ks) s := ⟨_, rfl⟩
    rw [← hRR]
    have HR : Hid (R = if go (.mk l ps t ks) then kidsS go st ks s1 else (false, s1)) := by
      show R = _
      rw [hRR, hR.out]
    clear hv0 hv hE hs hS0 hp ht hk hc hwt hw3 hm hM hR hRR ih hA
    cases hgo : go (.mk l ps t ks) with
    | false =>
      rw [hgo] at HA HR
      go_enter Tryd.func59, Tryd.ntmps59
      go_wp2_with fail
      refine HA.out.mono ?_
      rintro e w1 ⟨rfl, hφ, hsp⟩
      have Hφ := Lib.hid hφ; have HS := Lib.hid (HS0.out.trans hsp)
      clear hφ hsp HA
      go_wp2_with fail
      go_ret
      refine ⟨?_, ?_, HS.out⟩
      · rw [HR.out]; rfl
      · rw [HR.out]; exact Hφ.out
    | true =>
      rw [hgo] at HA HR
      have HK := fun (w1 : World) (hφ : Φ s1 w1) (hs : Spares bad B W w1) => Lib.hid (hasKids_c _ _ _ _ _ _ _ (idxKids_c (go := go) (st := st) ks ak ck css s1 w1 (HE.out.keep hs hb1) hb1 (Hk.out.keep hs.below (Nat.le_refl _)) (KidsC.keep hs.below (Nat.le_refl _) ks css Hc.out) (Nat.le_trans hB hs.size) hφ
        (fun q v s W' hq hv hB' hE' hφ' => kid_c hΦ hb1 q v s W' hE' hv hB' hφ' (fun W2 hv2 hB2 hE2 hφ2 => IH.out q v s W2 (Hw3.out q hq).1 (Hw3.out q hq).2 hv2 hB2 hE2 hφ2))))
      have HR2 : Hid (R = kidsS go st ks s1) := by
        show R = _
        rw [HR.out]; rfl
      generalize kidsS go st ks s1 = r at HK HR2
      obtain ⟨b, s2⟩ := r
      clear HR Hw3 IH Hk Hc HE
      have hmf : ∀ (fn : Fn) (first cap : Array Value) (w : World), (Instr.makeFunc fn first cap).run Tryd.prog w = .ok (.func fn first cap) w := fun _ _ _ _ => rfl
      go_enter Tryd.func59, Tryd.ntmps59
      go_wp2_with fail
      refine HA.out.mono ?_
      rintro e w1 ⟨rfl, hφ, hsp⟩
      obtain ⟨x0, x1, x2, x3⟩ := hsp.box4 hb2
      have HS := Lib.hid (HS0.out.trans hsp)
      have HK1 := HK w1 hφ HS.out
      clear hφ hsp HA HK
      go_wp2_with fail
      refine HK1.out.mono ?_
      rintro e w2 ⟨rfl, hφ, hsp⟩
      have Hφ := Lib.hid hφ; have HS2 := Lib.hid (HS.out.trans hsp)
      clear hφ hsp HK1 x0 x1 x2 x3
      cases b <;> (
        go_wp2_with fail
        go_ret
        refine ⟨?_, ?_, HS2.out⟩
        · rw [HR2.out]; rfl
        · rw [HR2.out]; exact Hφ.out)
end

end Go.Proofs.YtmhgbocejjnoaaaDoor
