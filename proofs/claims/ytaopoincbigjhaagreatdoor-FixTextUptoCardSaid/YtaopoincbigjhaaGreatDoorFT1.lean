/- Parts of the proof, one behind the other: RYI, ROB, ROC, ROE, ROG, RVI, RYA, RYJ, RYE. -/
import Derived.Test.YtaopoincbigjhaaGreatDoorFC1
import Derived.Test.YtaopoincbigjhaaGreatDoorFC2
import Derived.Test.YtaopoincbigjhaaGreatDoorFC3
import Derived.Test.YtaopoincbigjhaaGreatDoorFC4
import Derived.Test.YtaopoincbigjhaaGreatDoorFC5
import Derived.Test.YtaopoincbigjhaaGreatDoorFC6
import Derived.Test.YtaopoincbigjhaaGreatDoorFC7
import Derived.Test.YtaopoincbigjhaaGreatDoorFC8
import Derived.Test.YtaopoincbigjhaaGreatDoorFC9
import Derived.Test.YtaopoincbigjhaaGreatDoorFC10
import Derived.Test.YtaopoincbigjhaaGreatDoorFC11
import Derived.Test.YtaopoincbigjhaaGreatDoorFC12
import Derived.Test.YtaopoincbigjhaaGreatDoorFC13
import Derived.Test.YtaopoincbigjhaaGreatDoorFC14
import Derived.Test.YtaopoincbigjhaaGreatDoorFC15
import Derived.Test.YtaopoincbigjhaaGreatDoorFC16
import Derived.Test.YtaopoincbigjhaaGreatDoorFC17
import Derived.Test.YtaopoincbigjhaaGreatDoorFC18
import Derived.Test.YtaopoincbigjhaaGreatDoorFC19
import Derived.Test.YtaopoincbigjhaaGreatDoorFC20
import Derived.Test.YtaopoincbigjhaaGreatDoorFC21
import Derived.Test.YtaopoincbigjhaaGreatDoorFC22
import Derived.Test.YtaopoincbigjhaaGreatDoorFC23
import Derived.Test.YtaopoincbigjhaaGreatDoorFC24
import Derived.Test.YtaopoincbigjhaaGreatDoorFC25
import Derived.Test.YtaopoincbigjhaaGreatDoorFC26
import Derived.Test.YtaopoincbigjhaaGreatDoorFC27
import Derived.Laws.Cover4
namespace Go.Proofs.YtaopoincbigjhaaGreatDoor
open Go.RowKit Go.Redl
set_option linter.unusedVariables false
set_option linter.unusedSimpArgs false

def AskP {S : Type} (Φ : S → World → Prop) (Pre : NodeD → S → Prop) (bad : TypeId → Bool) (B cb : Nat) (caps : Array Value) (go : NodeD → Bool) (st : NodeD → S → S) (M : Nat) : Prop :=
  ∀ (n : NodeD) (v : Value) (s : S) (W : World), n.wt ≤ M → NodeV W B n v → B ≤ W.heap.size → Φ s W → Pre n s →
    Calls Tryz.prog cb (#[v] ++ caps) W fun e w' => e = .returned (.bool (go n)) ∧ Φ (st n s) w' ∧ Spares bad B W w'
section
variable {S : Type} {Φ : S → World → Prop} {Pre : NodeD → S → Prop} {PreK : List NodeD → S → Prop} {bad : TypeId → Bool} {B tb eb cb : Nat} {caps : Array Value} {go : NodeD → Bool} {st : NodeD → S → S} {M : Nat}

set_option maxRecDepth 100000 in
set_option maxHeartbeats 1000000 in
theorem idxKidsP_c (ks : List NodeD) (a : Option Addr) (cap : Nat) (css : List Value) (s : S) (W : World) (hE : EnvAt W tb eb cb caps) (hbad : bad 91 = false) (hr : RowA W B 4 a ks.length cap css) (hk : KidsC W B ks css) (hB : B ≤ W.heap.size) (hs : Φ s W) (hP2 : ∀ (k : NodeD) (ks : List NodeD) (s : S), PreK (k :: ks) s → Pre k s ∧ PreK ks (eachS go st k s).2) (hpre : PreK ks s)
    (hC : ∀ (q : NodeD) (v : Value) (s : S) (W' : World), q ∈ ks → Pre q s → NodeV W' B q v → B ≤ W'.heap.size → EnvAt W' tb eb cb caps → Φ s W' → Calls Tryz.prog 92 #[v, .pointer (some ⟨eb, 0, none⟩)] W' (EachP Φ bad B W' (!(eachS go st q s).1) (eachS go st q s).2)) :
    Calls Tryz.prog 151 #[.slice a ks.length cap, .func (.func 92) #[] #[.pointer (some ⟨eb, 0, none⟩)]] W (IdxP Φ bad B W (kidsS go st ks s).1 (kidsS go st ks s).2) := by
  have HC := Lib.hid hC; have HE := Lib.hid hE
  have hm := props_len hr
  have Hst := fun (s' : S) (W' : World) (h : Φ s' W') => h
  have Hs := Lib.hid hs
  have Hpre : Hid (PreK (ks.drop 0) s) := Lib.hid hpre
  have HP2 := Lib.hid hP2
  obtain ⟨R, hR⟩ : ∃ R, R = kidsS go st ks s := ⟨_, rfl⟩
  rw [← hR]
  have HR := Lib.hid hR
  clear hC hE hs Hst hR hpre hP2
  go_enter Tryz.func151, Tryz.ntmps151
  go_wp2_with fail
  go_loopw [8] (fun i wr => ∃ (k : Nat) (s' : S), k ≤ ks.length ∧ i = .int .i64 k ∧ kidsS go st (ks.drop k) s' = R ∧ Φ s' wr ∧ Spares bad B W wr ∧ Hid (PreK (ks.drop k) s')) (fun i _ => ks.length - (intOf i).toNat)
  case atStart => exact ⟨0, s, Nat.zero_le _, rfl, HR.out.symm, Hs.out, Spares.refl hB, Hpre⟩
  case round =>
    obtain ⟨k, s', hkn, rfl, hke, hφ, hsp, Hpk⟩ := hrel
    have hr2 := hr.keep hsp.below (Nat.le_refl _)
    have hc2 := KidsC.keep hsp.below (Nat.le_refl _) ks css hk
    have Hke := Lib.hid hke; have Hφ := Lib.hid hφ; have Hsp := Lib.hid hsp
    clear hke hφ hsp
    by_cases hlt : k < ks.length
    · have Hss := Lib.hid (kidsS_step go st (s := s') hlt)
      have hmem := List.getElem_mem hlt
      have hpp := Hpk.out
      rw [List.drop_eq_getElem_cons hlt] at hpp
      have hpq := HP2.out _ _ _ hpp
      clear hpp
      obtain ⟨b, off, l', a1, n1, c1, a2, n2, c2, a3, n3, c3, rfl, hb, hnc, g0, g1, g2, g3⟩ := hr2.kid_at hc2 k hlt
      generalize ks[k] = q at hnc hmem Hss hpq
      have HC1 := Lib.hid (HC.out q (.agg #[.bool l', .slice a1 n1 c1, .slice a2 n2 c2, .slice a3 n3 c3]) s' wr hmem hpq.1 ⟨_, rfl, hnc⟩ (Nat.le_trans hB Hsp.out.size) (HE.out.keep Hsp.out hbad) Hφ.out)
      have he : ∀ args w, (callFunc 92 args).run Tryz.prog w = .ok (.enter 92 args) w := by intro args w; kernel_rfl
      have Hp2 := Lib.hid hpq.2
      clear hpq
      generalize eachS go st q s' = r at HC1 Hss Hp2
      obtain ⟨b', s2⟩ := r
      clear hmem hnc hr2 hc2
      cases b' with
      | true =>
        have HR2 : Hid (kidsS go st (ks.drop (k + 1)) s2 = R) := by
          show kidsS go st _ _ = R
          rw [← Hke.out, Hss.out]; rfl
        go_wp2_with fail
        refine HC1.out.mono ?_
        rintro e w1 ⟨rfl, hφ, hsp⟩
        have Hφ2 := Lib.hid hφ; have Hsp2 := Lib.hid (Hsp.out.trans hsp)
        clear hφ hsp
        go_wp2_with fail
        go_roundw
        case rel => exact ⟨k + 1, s2, by omega, by go_num, HR2.out, Hφ2.out, Hsp2.out, Hp2⟩
        case measure => simp [intOf]; omega
      | false =>
        have HR2 : Hid ((false, s2) = R) := by
          show _ = R
          rw [← Hke.out, Hss.out]; rfl
        go_wp2_with fail
        refine HC1.out.mono ?_
        rintro e w1 ⟨rfl, hφ, hsp⟩
        have Hφ2 := Lib.hid hφ; have Hsp2 := Lib.hid (Hsp.out.trans hsp)
        clear hφ hsp
        go_wp2_with fail
        go_ret
        refine ⟨(k : Int), rfl, ?_, ?_, Hsp2.out⟩
        · rw [← HR2.out]; simp
        · rw [← HR2.out]; exact Hφ2.out
    · obtain rfl : k = ks.length := by omega
      have HR2 : Hid ((true, s') = R) := by
        show _ = R
        rw [← Hke.out, List.drop_length]; rfl
      go_wp2_with fail
      go_ret
      refine ⟨-1, rfl, ?_, ?_, Hsp.out⟩
      · rw [← HR2.out]; rfl
      · rw [← HR2.out]; exact Hφ.out
set_option maxRecDepth 100000 in
set_option maxHeartbeats 2000000 in
theorem eachP_c (hΦ : ∀ s W W', Φ s W → Below W.heap.size W W' → Φ s W') (hb1 : bad 91 = false) (hb2 : bad 35 = false) (hcb : ∀ args w, (callFunc cb args).run Tryz.prog w = .ok (.enter cb args) w) (hA : AskP Φ Pre bad B cb caps go st M) (hP1 : ∀ (l : Bool) (ps : List PropD) (t : List Int) (ks : List NodeD) (s : S), Pre (.mk l ps t ks) s → PreK ks (st (.mk l ps t ks) s)) (hP2 : ∀ (k : NodeD) (ks : List NodeD) (s : S), PreK (k :: ks) s → Pre k s ∧ PreK ks (eachS go st k s).2) (m : Nat) :
    ∀ (n : NodeD) (v : Value) (s : S) (W : World), n.wt ≤ m → n.wt ≤ M → NodeV W B n v → B ≤ W.heap.size → EnvAt W tb eb cb caps → Φ s W → Pre n s →
      Calls Tryz.prog 90 #[v, .pointer (some ⟨tb, 0, none⟩), .pointer (some ⟨eb, 0, none⟩)] W (EachP Φ bad B W (eachS go st n s).1 (eachS go st n s).2) := by
  induction m with
  | zero => intro n v s W hm; have := wt_pos n; omega
  | succ m ih =>
    intro n v s W hm hM hv hB hE hs hpre
    have IH := Lib.hid ih
    have hv0 := hv
    obtain ⟨l, ps, t, ks⟩ := n
    obtain ⟨ap, cp, at_, ct, ak, ck, css, rfl, hp, ht, hk, hc⟩ := hv0.open
    have hwt : 1 + propsWt ps + t.length + wtAll ks = (NodeD.mk l ps t ks).wt := rfl
    have hw3 : ∀ q ∈ ks, q.wt ≤ m ∧ q.wt ≤ M := fun q hq => by have := wtAll_mem hq; omega
    have Hw3 := Lib.hid hw3
    have hR : Hid (eachS go st (.mk l ps t ks) s = if go (.mk l ps t ks) then kidsS go st ks (st (.mk l ps t ks) s) else (false, st (.mk l ps t ks) s)) := rfl
    have hS0 : Spares bad B W (W.alloc (Obj.cells #[.bool l, .slice ap ps.length cp, .slice at_ t.length ct, .slice ak ks.length ck] 35)) := (Spares.refl hB).alloc hB _
    have HA := Lib.hid (hA (.mk l ps t ks) _ s _ hM (hv.keep hS0.below (Nat.le_refl _)) (Nat.le_trans hB hS0.size) (hΦ _ _ _ hs ((Below.refl _ _).alloc (Nat.le_refl _) _)) hpre)
    have Hpk := Lib.hid (hP1 _ _ _ _ _ hpre)
    obtain ⟨e1, e2, l1, l2⟩ := hE.cells
    have HS0 := Lib.hid hS0; have HE := Lib.hid hE
    have Hk := Lib.hid hk; have Hc := Lib.hid hc
    generalize st (.mk l ps t ks) s = s1 at HA hR Hpk
    obtain ⟨R, hRR⟩ : ∃ R, R = eachS go st (.mk l ps t ks) s := ⟨_, rfl⟩
    rw [← hRR]
    have HR : Hid (R = if go (.mk l ps t ks) then kidsS go st ks s1 else (false, s1)) := by
      show R = _
      rw [hRR, hR.out]
    clear hv0 hv hE hs hS0 hp ht hk hc hwt hw3 hm hM hR hRR ih hA hpre hP1
    cases hgo : go (.mk l ps t ks) with
    | false =>
      rw [hgo] at HA HR
      go_enter Tryz.func90, Tryz.ntmps90
      go_wp2_with fail
      refine HA.out.mono ?_
      rintro e w1 ⟨rfl, hφ, hsp⟩
      have Hφ := Lib.hid hφ; have HS := Lib.hid (HS0.out.trans hsp)
      clear hφ hsp HA
      go_wp2_with fail
      go_ret
      refine ⟨?_, ?_, HS.out⟩
      · rw [HR.out]; rfl
      · rw [HR.out]; exact Hφ.out
    | true =>
      rw [hgo] at HA HR
      have HK := fun (w1 : World) (hφ : Φ s1 w1) (hs : Spares bad B W w1) => Lib.hid (hasKids_c _ _ _ _ _ _ _ (idxKidsP_c (Pre := Pre) (PreK := PreK) (go := go) (st := st) ks ak ck css s1 w1 (HE.out.keep hs hb1) hb1 (Hk.out.keep hs.below (Nat.le_refl _)) (KidsC.keep hs.below (Nat.le_refl _) ks css Hc.out) (Nat.le_trans hB hs.size) hφ hP2 Hpk.out
        (fun q v s W' hq hpq hv hB' hE' hφ' => kid_c hΦ hb1 q v s W' hE' hv hB' hφ' (fun W2 hv2 hB2 hE2 hφ2 => IH.out q v s W2 (Hw3.out q hq).1 (Hw3.out q hq).2 hv2 hB2 hE2 hφ2 hpq))))
      have HR2 : Hid (R = kidsS go st ks s1) := by
        show R = _
        rw [HR.out]; rfl
      generalize kidsS go st ks s1 = r at HK HR2
      obtain ⟨b, s2⟩ := r
      clear HR Hw3 IH Hk Hc HE
      have hmf : ∀ (fn : Fn) (first cap : Array Value) (w : World), (Instr.makeFunc fn first cap).run Tryz.prog w = .ok (.func fn first cap) w := fun _ _ _ _ => rfl
      go_enter Tryz.func90, Tryz.ntmps90
      go_wp2_with fail
      refine HA.out.mono ?_
      rintro e w1 ⟨rfl, hφ, hsp⟩
      obtain ⟨x0, x1, x2, x3⟩ := hsp.box4 hb2
      have HS := Lib.hid (HS0.out.trans hsp)
      have HK1 := HK w1 hφ HS.out
      clear hφ hsp HA HK
      go_wp2_with fail
      refine HK1.out.mono ?_
      rintro e w2 ⟨rfl, hφ, hsp⟩
      have Hφ := Lib.hid hφ; have HS2 := Lib.hid (HS.out.trans hsp)
      clear hφ hsp HK1 x0 x1 x2 x3
      cases b <;> (
        go_wp2_with fail
        go_ret
        refine ⟨?_, ?_, HS2.out⟩
        · rw [HR2.out]; rfl
        · rw [HR2.out]; exact Hφ.out)
set_option maxRecDepth 100000 in
set_option maxHeartbeats 2000000 in
theorem walkP_c (hΦ : ∀ s W W', Φ s W → Below W.heap.size W W' → Φ s W') (hb1 : bad 91 = false) (hb2 : bad 35 = false) (hcb : ∀ args w, (callFunc cb args).run Tryz.prog w = .ok (.enter cb args) w) (hA : AskP Φ Pre bad B cb caps go st M) (hP1 : ∀ (l : Bool) (ps : List PropD) (t : List Int) (ks : List NodeD) (s : S), Pre (.mk l ps t ks) s → PreK ks (st (.mk l ps t ks) s)) (hP2 : ∀ (k : NodeD) (ks : List NodeD) (s : S), PreK (k :: ks) s → Pre k s ∧ PreK ks (eachS go st k s).2)
    (n : NodeD) (v : Value) (s : S) (W : World) (hM : n.wt ≤ M) (hv : NodeV W B n v) (hB : B ≤ W.heap.size) (hs : Φ s W) (hpre : Pre n s) :
      Calls Tryz.prog 45 #[v, .func (.func cb) #[] caps] W (EachP Φ bad B W (eachS go st n s).1 (eachS go st n s).2) := by
  have hv0 := hv
  obtain ⟨l, ps, t, ks⟩ := n
  obtain ⟨ap, cp, at_, ct, ak, ck, css, rfl, -, -, -, -⟩ := hv0.open
  generalize NodeD.mk l ps t ks = n at hv hM hpre ⊢
  have HE := fun (tb eb : Nat) (W' : World) (hE : EnvAt W' tb eb cb caps) (hW : Below W.heap.size W W') => Lib.hid (eachP_c (Pre := Pre) (PreK := PreK) (tb := tb) (eb := eb) hΦ hb1 hb2 hcb hA hP1 hP2 _ n _ s W' (Nat.le_refl _) hM (hv.keep (hW.mono hB) (Nat.le_refl _)) (Nat.le_trans hB hW.size) hE (hΦ _ _ _ hs hW) hpre)
  have HS := fun (W' w' : World) (hW : Below W.heap.size W W') (hS : Spares bad B W' w') => (Spares.of_below (bad := bad) hW hB).trans hS
  generalize eachS go st n s = r at HE ⊢
  obtain ⟨b, s'⟩ := r
  have HE := Lib.hid HE
  have HS := Lib.hid HS
  have hmf : ∀ (fn : Fn) (first cap : Array Value) (w : World), (Instr.makeFunc fn first cap).run Tryz.prog w = .ok (.func fn first cap) w := fun _ _ _ _ => rfl
  have hst := fun (W : World) (a : Addr) (fn : Fn) (first cap : Array Value) (m : Mode) => run_store Tryz.prog W a (.func fn first cap) m rfl
  clear hv0 hv hA hs hM hpre hP1 hP2
  go_enter Tryz.func45, Tryz.ntmps45
  go_wp2_with fail
  refine (HE.out _ _ _ (env_new W _ cb caps) (below_three _ _ _ _)).out.mono ?_
  rintro e w1 ⟨rfl, hφ, hsp⟩
  have Hφ := Lib.hid hφ; have HSp := Lib.hid (HS.out _ _ (below_three _ _ _ _) hsp)
  clear hφ hsp
  go_wp2_with fail
  go_ret
  exact ⟨rfl, Hφ.out, HSp.out⟩
end

end Go.Proofs.YtaopoincbigjhaaGreatDoor
namespace Go.Proofs.YtaopoincbigjhaaGreatDoor
open Go.RowKit Go.Redl
set_option linter.unusedVariables false

theorem text_setKids (n : NodeD) (ks : List NodeD) : textOf (setKids n ks) = textOf n := by cases n; rfl
mutual
/-- All text. -/
def allText : NodeD → List Int
  | .mk _ _ t ks => t ++ allTextK ks
def allTextK : List NodeD → List Int
  | [] => []
  | k :: ks => allText k ++ allTextK ks
end
theorem allTextK_append : ∀ a b : List NodeD, allTextK (a ++ b) = allTextK a ++ allTextK b
  | [], b => by simp [allTextK]
  | k :: a, b => by simp [allTextK, allTextK_append a b]
theorem allTextK_set : ∀ (ks : List NodeD) (j : Nat) (hj : j < ks.length) (m : NodeD), allText m = allText ks[j] → allTextK (ks.set j m) = allTextK ks
  | k :: ks, 0, hj, m, h => by simp at h; simp [allTextK, h]
  | k :: ks, j + 1, hj, m, h => by
    have := allTextK_set ks j (by simpa using hj) m (by simpa using h)
    simp [allTextK, this]
theorem allText_put : ∀ (p : List Int) (n k k' : NodeD), atN n p = some k → allText k' = allText k → allText (putN n p k') = allText n
  | [], n, k, k', ha, h => by
    have e : n = k := by simpa [atN] using ha
    subst e
    simpa [putN] using h
  | i :: p, n, k, k', ha, h => by
    obtain ⟨j, rfl, hj, h2⟩ := atN_cons_some ha
    have h3 := allText_put p _ k k' h2 h
    rw [putN_cons hj]
    obtain ⟨l, ps, t, ks⟩ := n
    simp only [kidsOf, setKids] at hj h3 ⊢
    simp only [allText]
    rw [allTextK_set ks j hj _ h3]
end Go.Proofs.YtaopoincbigjhaaGreatDoor
namespace Go.Proofs.YtaopoincbigjhaaGreatDoor
open Go.RowKit Go.Redl
set_option linter.unusedVariables false
set_option linter.unusedSectionVars false

theorem elem_text {x : NodeD} (h : nodeE x = 0) (hl : leafOf x = false) : textOf x = [] := by
  obtain ⟨l, ps, t, ks⟩ := x
  exact (ownE_zero.1 (nodeE_zero.1 h).1).2.2.1 hl
section
variable {n k : NodeD} {p : List Int} (hn : nodeE n = 0) (hr : leafOf n = false) (ha : atN n p = some k) (hk : leafOf k = false)
include hn hr ha hk
end

section
variable {n k : NodeD} {p : List Int} (hn : nodeE n = 0) (hr : leafOf n = false) (ha : atN n p = some k) (hk : leafOf k = false)
include hn hr ha hk
end

section
variable {n k : NodeD} {p : List Int} (hn : nodeE n = 0) (hr : leafOf n = false) (ha : atN n p = some k) (hk : leafOf k = false)
include hn hr ha hk
end

end Go.Proofs.YtaopoincbigjhaaGreatDoor
namespace Go.Proofs.YtaopoincbigjhaaGreatDoor
open Go.RowKit Go.Redl
set_option linter.unusedVariables false

theorem act_leaf {r : RuleD} (h : FormedR r) {n : NodeD} (hl : leafOf n = true) : (actOf r n).1 ≠ 3 := by
  intro h3
  unfold actOf at h3
  rw [if_pos hl] at h3
  have := h.text
  unfold actB at this
  rw [if_neg (by omega), if_pos h3] at this
  simp at this
end Go.Proofs.YtaopoincbigjhaaGreatDoor
namespace Go.Proofs.YtaopoincbigjhaaGreatDoor
open Go.RowKit Go.Redl
set_option linter.unusedVariables false

theorem allText_setKids (k : NodeD) (L : List NodeD) (h : allTextK L = allTextK (kidsOf k)) : allText (setKids k L) = allText k := by
  obtain ⟨l, ps, t, ks⟩ := k
  simp only [setKids, kidsOf] at h ⊢
  rw [allText, allText, h]
theorem allText_eq (x : NodeD) : allText x = textOf x ++ allTextK (kidsOf x) := by cases x; rw [allText]; rfl
theorem allTextK_cons (x : NodeD) (l : List NodeD) : allTextK (x :: l) = allText x ++ allTextK l := by rw [allTextK]
theorem allText_leaf {x : NodeD} (h : nodeE x = 0) (hl : leafOf x = true) : allText x = textOf x := by rw [allText_eq, leaf_kids h hl]; simp [allTextK]
theorem look_empty {r : RuleD} {ks : List NodeD} {j : Nat} (h : lookN r ks 5 = j) : j < ks.length ∧ leafOf (kidAt ks j) = true ∧ textOf (kidAt ks j) = [] := by
  unfold lookN at h
  rw [if_neg (by decide)] at h
  rcases idxP_cases (wrongB r ks 5) ks.length with ⟨k, hk, hp, -, he⟩ | ⟨-, he⟩
  · rw [he] at h
    have : k = j := by omega
    subst this
    have h2 : (leafOf (kidAt ks k) && (decide ((textOf (kidAt ks k)).length = 0) && decide (1 < ks.length))) = true := hp
    simp only [Bool.and_eq_true, decide_eq_true_eq] at h2
    exact ⟨hk, h2.1, List.eq_nil_of_length_eq_zero h2.2.1⟩
  · rw [he] at h; omega
theorem look_lift {r : RuleD} {ks : List NodeD} {j : Nat} (h : lookN r ks 2 = j) : j < ks.length ∧ (actOf r (kidAt ks j)).1 = 3 := by
  unfold lookN at h
  rw [if_neg (by decide)] at h
  rcases idxP_cases (wrongB r ks 2) ks.length with ⟨k, hk, hp, -, he⟩ | ⟨-, he⟩
  · rw [he] at h
    have : k = j := by omega
    subst this
    have h2 : decide ((actOf r (kidAt ks k)).1 = 3) = true := hp
    exact ⟨hk, by simpa using h2⟩
  · rw [he] at h; omega
theorem drop_split {ks : List NodeD} {j : Nat} (hj : j < ks.length) : ks = ks.take j ++ ks[j] :: ks.drop (j + 1) := by
  rw [← List.drop_eq_getElem_cons hj, List.take_append_drop]
theorem fix_text {s : SchemaD} {n k : NodeD} {p : List Int} (hs : checkS s = 0) (hn : nodeE n = 0) (ha : atN n p = some k) (hf : (findN s k).1 ≠ 0) :
    (findN s k).1 = 1 ∨ allText (putN n p (setKids k (fixK (ruleOf s (typeN k)) (kidsOf k) (findN s k)))) = allText n := by
  have hin := rule_in s (typeN k)
  have hF := formed_of (check_all hs _ hin).1
  have hE := nodeE_kids (nodeE_at p n k hn ha)
  rcases find_cases s k with h | ⟨c, j, hk, h1, h6, hj, he, hlt, h4, h66⟩
  · rw [h] at hf; exact absurd rfl hf
  rw [he]
  generalize ruleOf s (typeN k) = r at hF hj hin ⊢
  obtain rfl | hc1 : c = 1 ∨ c ≠ 1 := by omega
  · exact .inl rfl
  refine .inr (allText_put p n k _ ha (allText_setKids k _ ?_))
  obtain rfl | rfl | rfl | rfl | rfl : c = 2 ∨ c = 3 ∨ c = 4 ∨ c = 5 ∨ c = 6 := by omega
  · have hjl := hlt (by omega)
    obtain ⟨-, g2⟩ := look_lift (show lookN r (kidsOf k) 2 = j from hj)
    rw [fixK_two rfl]
    simp only [Int.toNat_natCast]
    rw [kid_at hjl]
    rw [kid_at hjl] at g2
    have hxE := hE _ (List.getElem_mem hjl)
    conv => rhs; rw [drop_split hjl]
    rw [allTextK_append, allTextK_append, allTextK_append, allTextK_cons, allText_eq (kidsOf k)[j]]
    have hl : leafOf (kidsOf k)[j] = false := by
      cases hl : leafOf (kidsOf k)[j] with
      | false => rfl
      | true => exact absurd g2 (act_leaf hF hl)
    rw [elem_text hxE hl]
    simp
  · have hjl := hlt (by omega)
    rw [fixK_three rfl]
    simp only [Int.toNat_natCast]
    generalize (manyN r (kidsOf k) ((3 : Nat) : Int)) = m
    unfold wrapL
    rw [allTextK_append, allTextK_cons, allText_eq, text_setKids, kids_setKids, show textOf (elemN (actOf r (kidAt (kidsOf k) j)).2) = [] from rfl]
    simp only [List.nil_append]
    rw [← allTextK_append, ← allTextK_append, ← List.drop_drop, List.take_append_drop, List.take_append_drop]
  · obtain ⟨g1, g2, g3, g4, g5⟩ := merge_at (show lookN r (kidsOf k) 4 = j from hj)
    rw [fixK_four rfl]
    simp only [Int.toNat_natCast]
    obtain ⟨i, rfl⟩ : ∃ i, j = i + 1 := ⟨j - 1, by omega⟩
    have hi : i < (kidsOf k).length := by omega
    rw [show i + 1 - 1 = i by omega] at g4 ⊢
    rw [kid_at g2] at g3
    rw [kid_at hi] at g4
    rw [kid_at g2, kid_at hi]
    have e1 := allText_leaf (hE _ (List.getElem_mem hi)) g4
    have e2 := allText_leaf (hE _ (List.getElem_mem g2)) g3
    have k1 := leaf_kids (hE _ (List.getElem_mem hi)) g4
    have k2 := leaf_kids (hE _ (List.getElem_mem g2)) g3
    have hset : ((kidsOf k).eraseIdx (i + 1)).set i (joinN (kidsOf k)[i] (kidsOf k)[i + 1]) = (kidsOf k).take i ++ joinN (kidsOf k)[i] (kidsOf k)[i + 1] :: (kidsOf k).drop (i + 2) := by
      rw [List.eraseIdx_eq_take_drop_succ, List.take_succ_eq_append_getElem hi, List.append_assoc, List.set_append_right _ _ (by simp; omega)]
      simp [Nat.min_eq_left (Nat.le_of_lt hi)]
    rw [hset]
    conv => rhs; rw [drop_split hi, List.drop_eq_getElem_cons g2]
    rw [allTextK_append, allTextK_append, allTextK_cons, allTextK_cons, allTextK_cons, e1, e2]
    generalize (kidsOf k)[i] = x at k1 ⊢
    generalize (kidsOf k)[i + 1] = y at k2 ⊢
    cases x; cases y
    simp only [kidsOf] at k1 k2
    subst k1; subst k2
    simp [joinN, allText, allTextK, textOf]
  · have hjl := hlt (by omega)
    obtain ⟨-, g2, g3⟩ := look_empty (show lookN r (kidsOf k) 5 = j from hj)
    rw [fixK_one (.inr rfl)]
    simp only [Int.toNat_natCast]
    rw [kid_at hjl] at g2 g3
    conv => rhs; rw [drop_split hjl]
    rw [List.eraseIdx_eq_take_drop_succ, allTextK_append, allTextK_append, allTextK_cons, allText_leaf (hE _ (List.getElem_mem hjl)) g2, g3]
    simp
  · have hj6 : lookN r (kidsOf k) 6 = j := hj
    rw [look_last] at hj6
    rw [fixK_six rfl]
    split at hj6
    · rename_i h0
      rw [List.eq_nil_of_length_eq_zero h0.1, allTextK_cons]
      have : allText (if r.fill = 1 then NodeD.mk true [] [] [] else elemN r.fillT) = [] := by
        split
        · rfl
        · rw [allText_eq]; simp [elemN, textOf, kidsOf, allTextK]
      rw [this]; simp [allTextK]
    · omega
end Go.Proofs.YtaopoincbigjhaaGreatDoor
namespace Go.Proofs.YtaopoincbigjhaaGreatDoor
open Go.RowKit Go.Redl
set_option linter.unusedVariables false
set_option linter.unusedSimpArgs false

/-- A call whose guard holds. -/
theorem step_callG {P : Program} {ops : Array Oper} {o : Oper} {a : Act} {w : World} {K : Act → World → Prop} {Q : Exit → Act → World → Prop} {E : Prop}
    (hw : Region.wanted o (yielded ops a.tmps) = true) (f : FuncId) (args : Array Operand) (tys : Array TypeId) (ho : o.op = .call { callee := .value (.func f), args := args, argTypes := tys })
    (he : ∀ args w, (callFunc f args).run P w = .ok (.enter f args) w) (vals : List Value) (hv : args.toList.map a.eval = vals) (R : Ending → World → Prop) (hC : Calls P f vals.toArray w R)
    (h : ∀ e w', R e w' → ∃ v, e = .returned v ∧ K (a.put o.dst v) w') : if Region.wanted o (yielded ops a.tmps) = true then Oper.wp P o a w K Q else E := by
  rw [if_pos hw]
  unfold Oper.wp
  have hv' : args.map a.eval = vals.toArray := by rw [← hv]; apply Array.ext'; simp
  have hr : (execOp a.eval o).run P w = .ok (.enter f vals.toArray) w := by
    simp [execOp, ho, resolve, invoke, Act.eval, Deferred.ofValue, hv', he]
  rw [hr]
  show Calls P f vals.toArray w _
  refine hC.mono fun e w' hR => ?_
  obtain ⟨v, rfl, hk⟩ := h e w' hR
  exact hk
end Go.Proofs.YtaopoincbigjhaaGreatDoor
namespace Go.Proofs.YtaopoincbigjhaaGreatDoor
open Go.RowKit Go.Redl
set_option linter.unusedVariables false
set_option linter.unusedSimpArgs false

theorem fixL_len2 (r : RuleD) (ks : List NodeD) (p : List Int) (f : FindD) (m : Nat) (h1 : wtAll ks ≤ m) (h2 : f.2.2 ≤ (m : Int) + 1) : (fixL r ks p f).length ≤ m + 2 := by
  have hk : (kidsOf (kidAt ks f.2.1.toNat)).length ≤ m := by
    have h3 : (kidAt ks f.2.1.toNat).wt ≤ m + 1 := by
      by_cases hi : f.2.1.toNat < ks.length
      · rw [kid_get hi]; have := wtAll_mem (List.getElem_mem hi); omega
      · rw [show kidAt ks f.2.1.toNat = .mk false [] [] [] from by simp [kidAt, List.getD, List.getElem?_eq_none (show ks.length ≤ f.2.1.toNat by omega)]]
        simp [NodeD.wt, propsWt, wtAll]
    generalize kidAt ks f.2.1.toNat = q at h3 ⊢
    obtain ⟨l, ps, t, ks'⟩ := q
    have := wtAll_len ks'
    simp only [NodeD.wt, kidsOf] at h3 ⊢
    omega
  unfold fixL
  split
  · simp only [List.length_cons, List.length_nil]; omega
  split
  · simp only [List.length_append, List.length_map, List.length_range, List.length_cons, List.length_nil]; omega
  split
  · simp only [List.length_cons, List.length_map, List.length_range]; omega
  split
  · simp only [List.length_cons, List.length_nil]; omega
  · simp only [List.length_cons, List.length_nil]; omega
theorem fixN_len2 (s : SchemaD) (n : NodeD) (p : List Int) (hn : n.wt ≤ 1048576) : (fixN s n p).1.length ≤ 100000000 := by
  have hw := atN_wt p n
  unfold fixN
  cases hat : atN n p with
  | none => simp
  | some k =>
    have hk := hw k hat
    simp only
    split
    · simp
    split
    · simp
    · have hks : wtAll (kidsOf k) ≤ 1048576 := by
        obtain ⟨l, ps, t, ks'⟩ := k
        simp only [NodeD.wt, kidsOf] at hk ⊢
        omega
      have hl := wtAll_len (kidsOf k)
      have hm : (findN s k).2.2 ≤ ((1048576 : Nat) : Int) + 1 := by
        rcases find_cases s k with hF | ⟨c, j, -, -, -, -, hF, -, -, -⟩
        · rw [hF]; simp
        · rw [hF]
          show ((manyN (ruleOf s (typeN k)) (kidsOf k) c : Nat) : Int) ≤ _
          have : manyN (ruleOf s (typeN k)) (kidsOf k) c ≤ 1 + (kidsOf k).length := by
            unfold manyN
            split
            · unfold runA
              have h1 := List.takeWhile_prefix (l := ((actsOf (ruleOf s (typeN k)) (kidsOf k)).drop ((lookN (ruleOf s (typeN k)) (kidsOf k) c).toNat + 1))) (p := fun a => decide (a = (actsOf (ruleOf s (typeN k)) (kidsOf k)).getD (lookN (ruleOf s (typeN k)) (kidsOf k) c).toNat (0, [])))
              have h2 := h1.length_le
              have h3 : ((actsOf (ruleOf s (typeN k)) (kidsOf k)).drop ((lookN (ruleOf s (typeN k)) (kidsOf k) c).toNat + 1)).length ≤ (kidsOf k).length := by simp [actsOf]
              omega
            · omega
          omega
      have := fixL_len2 (ruleOf s (typeN k)) (kidsOf k) p (findN s k) 1048576 hks hm
      exact Nat.le_trans this (by omega)
theorem small_path2 (s : SchemaD) (n : NodeD) (p : List Int) (h : smallB s n p = true) : p.length ≤ 40 := by
  unfold smallB at h
  simp only [Bool.and_eq_true, decide_eq_true_eq] at h
  exact h.2
theorem small_node {s : SchemaD} {n : NodeD} {p : List Int} (h : smallB s n p = true) : n.wt ≤ 15360 := by
  unfold smallB at h
  simp only [Bool.and_eq_true] at h
  have := wt_few h.1.2
  omega
theorem elem_wt (t : List UInt8) : (elemN t).wt ≤ 7 + t.length := by
  unfold elemN
  by_cases h : t = []
  · simp [h, NodeD.wt, propsWt, wtAll]
  · rw [if_neg h]
    simp only [NodeD.wt, propsWt, wtAll, List.length_nil]
    have : typeB.length = 4 := rfl
    omega
theorem name_len {t : List UInt8} (h : nameB t = true) : t.length ≤ 32 := by
  have := (name_val h).2
  unfold valB at this
  simp only [Bool.and_eq_true, decide_eq_true_eq] at this
  exact this.1
theorem kidAt_wt (ks : List NodeD) (i : Nat) : (kidAt ks i).wt ≤ wtAll ks + 1 := by
  by_cases hi : i < ks.length
  · rw [kid_get hi]; have := wtAll_mem (List.getElem_mem hi); omega
  · rw [show kidAt ks i = .mk false [] [] [] from by simp [kidAt, List.getD, List.getElem?_eq_none (show ks.length ≤ i by omega)]]
    simp [NodeD.wt, propsWt, wtAll]
theorem noKids_wt (k : NodeD) : (noKids k).wt ≤ k.wt := by
  cases k; simp only [noKids, NodeD.wt, wtAll]; omega
theorem propsOf_len (k : NodeD) : (propsOf k).length ≤ k.wt := by
  obtain ⟨l, ps, t, ks⟩ := k
  have := propsWt_len ps
  simp only [propsOf, NodeD.wt]; omega
theorem kids_wt2 (k : NodeD) : wtAll (kidsOf k) + 1 ≤ k.wt := by
  cases k; simp only [kidsOf, NodeD.wt]; omega
theorem insWt_none {l : List OpD} (h : ∀ o ∈ l, o.kind ≠ 1) : insWt l = 0 := by
  induction l with
  | nil => rfl
  | cons o l ih =>
    simp only [insWt]
    rw [if_neg (h o (by simp)), ih (fun o ho => h o (by simp [ho]))]
/-- What an operation of a repair is bounded by. -/
def OpOk (o : OpD) : Prop := KindR o.kind ∧ o.node.wt ≤ 1000000 ∧ o.dest.length ≤ 1000000 ∧ o.old.length ≤ 100000000
theorem fixL_ok {s : SchemaD} {n k : NodeD} {p : List Int} (hs : checkS s = 0) (hk : k.wt ≤ 15360) (hp : p.length ≤ 40) (hf : (findN s k).1 ≠ 0) :
    (∀ o ∈ fixL (ruleOf s (typeN k)) (kidsOf k) p (findN s k), OpOk o) ∧ insWt (fixL (ruleOf s (typeN k)) (kidsOf k) p (findN s k)) ≤ 100 ∧ fixL (ruleOf s (typeN k)) (kidsOf k) p (findN s k) ≠ [] := by
  have hF := formed_of (check_all hs _ (rule_in s (typeN k))).1
  have hkw := kids_wt2 k
  have hz : zeroN.wt = 1 := rfl
  rcases find_cases s k with h | ⟨c, j, hl, h1, h6, hj, he, hlt, h4, h66⟩
  · rw [h] at hf; exact absurd rfl hf
  rw [he]
  generalize ruleOf s (typeN k) = r at hF hj ⊢
  have hkj := kidAt_wt (kidsOf k) j
  obtain rfl | rfl | rfl | rfl | rfl | rfl : c = 1 ∨ c = 2 ∨ c = 3 ∨ c = 4 ∨ c = 5 ∨ c = 6 := by omega
  · rw [fixL_one (.inl rfl)]
    refine ⟨fun o ho => ?_, by simp [insWt], by simp⟩
    rw [List.mem_singleton.1 ho]
    exact ⟨.inr (.inl rfl), (show (kidAt (kidsOf k) (((j : Nat) : Int)).toNat).wt ≤ 1000000 by rw [Int.toNat_natCast]; omega), by simp, by simp⟩
  · rw [fixL_two rfl]
    refine ⟨fun o ho => ?_, ?_, by simp⟩
    · rcases List.mem_append.1 ho with ho | ho
      · obtain ⟨i, -, rfl⟩ := List.mem_map.1 ho
        exact ⟨.inr (.inr (.inr rfl)), (show zeroN.wt ≤ 1000000 by omega), (show (p ++ [_]).length ≤ 1000000 by simp; omega), by simp⟩
      · rw [List.mem_singleton.1 ho]
        have := noKids_wt (kidAt (kidsOf k) j)
        exact ⟨.inr (.inl rfl), (show (noKids (kidAt (kidsOf k) (((j : Nat) : Int)).toNat)).wt ≤ 1000000 by rw [Int.toNat_natCast]; omega), by simp, by simp⟩
    · rw [insWt_none]
      · omega
      · intro o ho
        rcases List.mem_append.1 ho with ho | ho
        · obtain ⟨i, -, rfl⟩ := List.mem_map.1 ho
          simp
        · rw [List.mem_singleton.1 ho]; simp
  · have hjl := hlt (by omega)
    have h4a := (run_acts hjl hj).1
    have hnm := name_len (act_wrap (actOf_ok hF _) h4a)
    have hew := elem_wt (actOf r (kidsOf k)[j]).2
    rw [fixL_three rfl]
    simp only [Int.toNat_natCast]
    rw [kid_at hjl]
    refine ⟨fun o ho => ?_, ?_, by simp⟩
    · rcases List.mem_cons.1 ho with rfl | ho
      · exact ⟨.inl rfl, (show (elemN _).wt ≤ 1000000 by omega), by simp, by simp⟩
      · obtain ⟨i, -, rfl⟩ := List.mem_map.1 ho
        exact ⟨.inr (.inr (.inr rfl)), (show zeroN.wt ≤ 1000000 by omega), (show (p ++ [_, _]).length ≤ 1000000 by simp; omega), by simp⟩
    · rw [insWt, insWt_none (l := List.map _ _)]
      · rw [if_pos rfl]
        show (elemN _).wt + 0 ≤ 100
        omega
      · intro o ho
        obtain ⟨i, -, rfl⟩ := List.mem_map.1 ho
        simp
  · rw [fixL_four rfl]
    have hpl := propsOf_len (kidAt (kidsOf k) j)
    refine ⟨fun o ho => ?_, by simp [insWt], by simp⟩
    rw [List.mem_singleton.1 ho]
    exact ⟨.inr (.inr (.inl rfl)), (show zeroN.wt ≤ 1000000 by omega), by simp, (show (propsOf (kidAt (kidsOf k) (((j : Nat) : Int)).toNat)).length ≤ 100000000 by rw [Int.toNat_natCast]; omega)⟩
  · rw [fixL_one (.inr rfl)]
    refine ⟨fun o ho => ?_, by simp [insWt], by simp⟩
    rw [List.mem_singleton.1 ho]
    exact ⟨.inr (.inl rfl), (show (kidAt (kidsOf k) (((j : Nat) : Int)).toNat).wt ≤ 1000000 by rw [Int.toNat_natCast]; omega), by simp, by simp⟩
  · rw [fixL_six rfl]
    have hx : (if r.fill = 1 then NodeD.mk true [] [] [] else elemN r.fillT).wt ≤ 100 := by
      split
      · simp [NodeD.wt, propsWt, wtAll]
      · rename_i hf1
        have hj6 : lookN r (kidsOf k) 6 = j := hj
        rw [look_last] at hj6
        split at hj6
        · rename_i h
          have := name_len (fill_two hF h.2 hf1).2
          have := elem_wt r.fillT
          omega
        · omega
    generalize (if r.fill = 1 then NodeD.mk true [] [] [] else elemN r.fillT) = x at hx ⊢
    refine ⟨fun o ho => ?_, ?_, by simp⟩
    · rw [List.mem_singleton.1 ho]
      exact ⟨.inl rfl, (show x.wt ≤ 1000000 by omega), by simp, by simp⟩
    · simp only [insWt, if_true]; omega
/-- The tree behind a repair. -/
def fixedN (s : SchemaD) (n k : NodeD) (p : List Int) : NodeD := putN n p (setKids k (fixK (ruleOf s (typeN k)) (kidsOf k) (findN s k)))
theorem fix_case {s : SchemaD} {n : NodeD} {p : List Int} (hsm : smallB s n p = true) (hs : checkS s = 0) (hn : nodeE n = 0) (hr : leafOf n = false) :
    ((fixN s n p).2 ≠ 0 ∧ (fixN s n p).1 = []) ∨
    ∃ k, atN n p = some k ∧ leafOf k = false ∧ (findN s k).1 ≠ 0 ∧ (fixN s n p).2 = 0 ∧ playN n ((fixN s n p).1.map OpD.full) = some (fixedN s n k p) ∧ (fixN s n p).1 ≠ [] ∧ (∀ o ∈ (fixN s n p).1, OpOk o) ∧
      n.wt + insWt (fixN s n p).1 ≤ 1000000 ∧ nodeE (fixedN s n k p) = 0 ∧ sizeN (fixedN s n k p) ≠ sizeN n ∧ (fixedN s n k p).wt ≤ 1000000 ∧ (fixN s n p).1 = fixL (ruleOf s (typeN k)) (kidsOf k) p (findN s k) := by
  have hnw := small_node hsm
  have hpl := small_path2 s n p hsm
  unfold fixN
  cases ha : atN n p with
  | none => exact .inl ⟨by simp, rfl⟩
  | some k =>
    simp only
    by_cases hl : leafOf k = true
    · rw [if_pos hl]; exact .inl ⟨by simp, rfl⟩
    · rw [if_neg hl]
      by_cases hf : (findN s k).1 = 0
      · rw [if_pos hf]; exact .inl ⟨by simp, rfl⟩
      · rw [if_neg hf]
        right
        have hkw := atN_wt _ _ _ ha
        have hE := nodeE_at p n k hn ha
        obtain ⟨h1, h2, h3⟩ := fixL_ok (n := n) hs (by omega) hpl hf
        have hpp := fix_play hn hr ha hf (new_ok hs hf)
        have hless := fix_less hs ha hf
        have hx : sizeN (fixedN s n k p) ≠ sizeN n := by
          obtain ⟨g1, g2, g3⟩ := hless
          show sizeN (putN n p _) ≠ sizeN n
          by_cases e3 : (findN s k).1 = 3
          · obtain ⟨w, -, -, -, -, h⟩ := g1 e3
            omega
          · by_cases e6 : (findN s k).1 = 6
            · have := (g2 e6).2.2; omega
            · have := g3 e3 e6; omega
        have hwt : (fixedN s n k p).wt ≤ n.wt + insWt (fixL (ruleOf s (typeN k)) (kidsOf k) p (findN s k)) := by
          have hgen : ∀ (L : List OpD) (m Y : NodeD), (∀ o ∈ L, OpOk o) → m.wt + insWt L ≤ 100000000 → playN m (L.map OpD.full) = some Y → Y.wt ≤ m.wt + insWt L := by
            intro L
            induction L with
            | nil => intro m Y _ _ h; injection h with h; subst h; exact Nat.le_add_right _ _
            | cons o L ih =>
              intro m Y ho hw h
              obtain ⟨T, hT, h5⟩ := playN_split h
              have h6 := apply_wt (ho o (by simp)).1 (by omega) hT
              simp only [insWt] at hw ⊢
              have h7 := ih T Y (fun o ho' => ho o (by simp [ho'])) (by omega) h5
              omega
          exact hgen _ n _ h1 (by omega) hpp
        exact ⟨k, rfl, by simpa using hl, hf, rfl, hpp, h3, h1, (show n.wt + insWt (fixL _ _ _ _) ≤ 1000000 by omega), nodeE_putK hn ha (by simpa using hl) (fixK_ok hs hE hf), hx, by omega, rfl⟩
end Go.Proofs.YtaopoincbigjhaaGreatDoor
namespace Go.Proofs.YtaopoincbigjhaaGreatDoor
open Go.RowKit Go.Redl
set_option linter.unusedVariables false
set_option linter.unusedSimpArgs false

/-- Runes put behind an own row, as one operation of a plain region. -/
theorem wpList_text {ops : Array Oper} {rest : List Oper} {o : Oper} {a : Act} {w : World} {Q : Exit → Act → World → Prop}
    (hg : o.guard = none) (s x : Operand) (ho : o.op = .call { callee := .builtin .append, args := #[s, x], argTypes := #[32, 32] })
    (M : Nat) (t t2 : List Int) (tv : Value) (hs : a.eval s = tv) (hto : w.ownsRow M 21 1 tv t.length (t.map (Value.int .i32))) (hM : M ≤ w.heap.size)
    (ya : Option Addr) (yc B : Nat) (hx : a.eval x = .slice ya t2.length yc) (hr : RowA w B 1 ya t2.length yc (t2.map (Value.int .i32))) (hn : t.length + t2.length ≤ 200000000)
    (h : ∀ a' c' w', w'.ownsRow M 21 1 (.slice a' (t ++ t2).length c') (t ++ t2).length ((t ++ t2).map (Value.int .i32)) → w.grownBy w' tv.ownBlock → wpList Tryz.prog ops Q rest (a.put o.dst (.slice a' (t ++ t2).length c')) w') : wpList Tryz.prog ops Q (o :: rest) a w := by
  cases ya with
  | none =>
    have hc0 : yc = 0 := hr.nil rfl
    have hn0 : t2.length = 0 := by have := hr.le; omega
    obtain rfl : t2 = [] := List.eq_nil_of_length_eq_zero hn0
    subst hc0
    obtain ⟨i, hi', -, hsize, -⟩ := info_parts (P := Tryz.prog) info_int32
    have hrun := run_append_owned_none (P := Tryz.prog) (w := w) M 32 o.type 21 i 1 Tryz.underlying32 hi' tv t.length (t.map (Value.int .i32)) hto
    obtain ⟨a', c', rfl, -⟩ := row_of_own hto (by intro u hu; obtain ⟨z, -, rfl⟩ := List.mem_map.1 hu; rfl)
    have h2 := h a' c' w (by rw [List.append_nil]; exact hto) (World.grownBy.refl w _)
    rw [List.append_nil] at h2
    refine wpList_plain hg fun K' hK' => ?_
    unfold Oper.wp execOp
    simp only [ho, resolve, invoke, builtin, Sem.run_bind, Sem.run_pure, Result.andThen_ok, List.map_toArray, List.map_cons, List.map_nil, hs, hx, List.length_nil, hrun]
    exact hK' _ _ h2
  | some ad =>
    refine wpList_app2 hg s x 32 ho M 21 (.int .i32 0) 1 4 Tryz.underlying32 info_int32 rfl (by decide) tv t.length (t.map (Value.int .i32)) hs hto ad t2.length yc B (t2.map (Value.int .i32)) hx hr (by unfold maxLen; omega) (by omega) hM fun v' w' hown hgrow hwh => ?_
    rw [← List.length_append, ← List.map_append] at hown
    obtain ⟨a', c', rfl, -⟩ := row_of_own hown (by intro u hu; obtain ⟨z, -, rfl⟩ := List.mem_map.1 hu; rfl)
    exact h a' c' w' hown hgrow
/-- The text so far. -/
def TextAt (b : Nat) (acc : List Int) (W : World) : Prop := ∃ (a : Option Addr) (c : Nat), At W b [.slice a acc.length c] 32 ∧ W.ownsRow (b + 1) 21 1 (.slice a acc.length c) acc.length (acc.map (Value.int .i32))
def badRunes (T : TypeId) : Bool := T == 32 || T == 21
theorem TextAt.kept (b : Nat) (acc : List Int) (W W' : World) (h : TextAt b acc W) (hb : Below W.heap.size W W') : TextAt b acc W' := by
  obtain ⟨a, c, h1, h2⟩ := h
  exact ⟨a, c, h1.kept hb, own_keep h2 hb⟩
def preText (n : NodeD) (acc : List Int) : Prop := acc.length + (allText n).length ≤ 200000000
def preTextK (ks : List NodeD) (acc : List Int) : Prop := acc.length + (allTextK ks).length ≤ 200000000
set_option maxRecDepth 100000 in
set_option maxHeartbeats 1000000 in
theorem text1_c (b B M : Nat) (hBb : B ≤ b) : AskP (TextAt b) preText badRunes B 67 #[.pointer (some ⟨b, 0, none⟩)] (fun _ => true) (fun n acc => acc ++ textOf n) M := by
  intro n v acc W hn hv hB hs hpre
  obtain ⟨ta, tc, hA, ho⟩ := hs
  obtain ⟨l, ps, t, ks⟩ := n
  obtain ⟨ap, cp, at_, ct, ak, ck, css, rfl, -, ⟨⟨at2, ct2, he2, ht⟩, -⟩, -, -⟩ := hv.open
  injection he2 with e1 e2 e3
  subst e1; subst e3
  clear e2
  have hlen : acc.length + t.length ≤ 200000000 := by
    unfold preText at hpre
    rw [allText] at hpre
    simp only [List.length_append] at hpre
    omega
  show Calls Tryz.prog 67 #[.agg #[.bool l, .slice ap ps.length cp, .slice at_ t.length ct, .slice ak ks.length ck], .pointer (some ⟨b, 0, none⟩)] W _
  obtain ⟨w1, hw1⟩ : ∃ w1, w1 = W.alloc (Obj.cells #[.bool l, .slice ap ps.length cp, .slice at_ t.length ct, .slice ak ks.length ck] 35) := ⟨_, rfl⟩
  have hb1 : Below W.heap.size W w1 := by rw [hw1]; exact one_below _ _
  have HN1 := Lib.hid (show At w1 W.heap.size [.bool l, .slice ap ps.length cp, .slice at_ t.length ct, .slice ak ks.length ck] 35 by rw [hw1]; exact At.fresh _ _ _)
  have HA1 := Lib.hid (hA.kept hb1)
  have Ho1 := Lib.hid (own_keep ho hb1)
  have Ht1 := Lib.hid (ht.keep (hb1.mono hB) (Nat.le_refl _))
  have HS1 := Lib.hid (show Spares badRunes B W w1 by rw [hw1]; exact (Spares.refl hB).alloc hB _)
  have Hw1 := Lib.hid hw1; have Hlt := Lib.hid (show b + 1 ≤ w1.heap.size from HA1.out.lt)
  have k0 := HA1.out.cell 0 rfl; have kl := HA1.out.lt
  have y2 := HN1.out.cell 2 rfl; have yl := HN1.out.lt
  clear hA ho ht hw1 hb1 hv hpre hn
  go_enter Tryz.func67, Tryz.ntmps67
  go_upto_region 1 with fail
  rw [← Hw1.out]
  clear Hw1
  go_wp2_with (at_builtin; refine wpList_text rfl _ _ rfl (b + 1) acc t (.slice ta acc.length tc) rfl Ho1.out Hlt.out at_ ct B rfl Ht1.out hlen ?_)
  intro a' c' w2 hown hg
  have HB2 := Lib.hid (HA1.out.grown hg (by intro e; have := (Ho1.out.lt b e).1; omega))
  have HS2 := Lib.hid (HS1.out.grown Ho1.out hg rfl (by omega) hB)
  have Hown := Lib.hid hown
  have k0 := HB2.out.cell 0 rfl; have kl := HB2.out.lt
  have kf := fun j => Lib.frozen_of_heap HB2.out j
  clear hown hg
  go_wp2_with fail
  go_ret
  have e : (acc ++ t).length = acc.length + t.length := List.length_append
  refine ⟨rfl, ⟨a', c', ?_, ?_⟩, HS2.out.setCell HB2.out rfl hBb _⟩
  · show At _ b [.slice a' (acc ++ t).length c'] _
    rw [e]
    exact HB2.out.set 0 _
  · have h := Hown.out
    show World.ownsRow _ (b + 1) 21 1 (.slice a' (acc ++ t).length c') (acc ++ t).length ((acc ++ t).map (Value.int .i32))
    rw [e, List.map_append]
    exact ownsRow_setCell_below (a := ⟨b, 0, none⟩) h (by show b < b + 1; omega) _
mutual
theorem eachS_text : ∀ (n : NodeD) (acc : List Int), eachS (fun _ => true) (fun n acc => acc ++ textOf n) n acc = (true, acc ++ allText n)
  | .mk l ps t ks, acc => by
    rw [eachS_mk, if_pos rfl, kidsS_text ks, allText]
    show (true, acc ++ t ++ allTextK ks) = _
    rw [List.append_assoc]
theorem kidsS_text : ∀ (ks : List NodeD) (acc : List Int), kidsS (fun _ => true) (fun n acc => acc ++ textOf n) ks acc = (true, acc ++ allTextK ks)
  | [], acc => by simp [kidsS, allTextK]
  | k :: ks, acc => by
    rw [kidsS_cons, eachS_text k, if_pos rfl, kidsS_text ks, allTextK, List.append_assoc]
end
mutual
theorem allText_wt : ∀ n : NodeD, (allText n).length ≤ n.wt
  | .mk l ps t ks => by
    have := allTextK_wt ks
    simp only [allText, NodeD.wt, List.length_append]; omega
theorem allTextK_wt : ∀ ks : List NodeD, (allTextK ks).length ≤ wtAll ks
  | [] => by simp [allTextK]
  | k :: ks => by
    have h1 := allText_wt k; have h2 := allTextK_wt ks
    simp only [allTextK, wtAll, List.length_append]; omega
end
/-- A row of runes. -/
def RunesP (W : World) (L : List Int) (e : Ending) (w' : World) : Prop := Below W.heap.size W w' ∧ ∃ a c, e = .returned (.slice a L.length c) ∧ RowA w' w'.heap.size 1 a L.length c (L.map (Value.int .i32))
set_option maxRecDepth 100000 in
set_option maxHeartbeats 1000000 in
theorem ntext_c (n : NodeD) (v : Value) (W : World) (hn : n.wt ≤ 100000000) (hv : NodeV W W.heap.size n v) : Calls Tryz.prog 23 #[v] W (RunesP W (allText n)) := by
  obtain ⟨csn, rfl, hc⟩ := hv
  obtain ⟨l, a1, n1, c1, a2, n2, c2, a3, n3, c3, rfl⟩ := hc.form
  obtain ⟨w1, hw1⟩ : ∃ w1, w1 = (W.alloc (Obj.cells #[.bool l, .slice a1 n1 c1, .slice a2 n2 c2, .slice a3 n3 c3] 35)).alloc (Obj.cells #[.slice none 0 0] 32) := ⟨_, rfl⟩
  have hb1 : Below W.heap.size W w1 := by rw [hw1]; exact two_below _ _ _
  have hN := Lib.hid (show At w1 W.heap.size [.bool l, .slice a1 n1 c1, .slice a2 n2 c2, .slice a3 n3 c3] 35 by rw [hw1]; exact (At.fresh _ _ _).alloc _)
  have hT : TextAt (W.heap.size + 1) [] w1 := ⟨none, 0, by rw [hw1]; exact At.second _ _ _ _, World.ownsRow_nil _ _ _ _⟩
  have hw := walkP_c (Pre := preText) (PreK := preTextK) (Φ := TextAt (W.heap.size + 1)) (bad := badRunes) (B := W.heap.size) (M := 100000000) (TextAt.kept (W.heap.size + 1)) rfl rfl (by intro args w; kernel_rfl)
    (text1_c (W.heap.size + 1) W.heap.size 100000000 (by omega))
    (fun l ps t ks s h => by unfold preText at h; unfold preTextK; rw [allText] at h; simp only [List.length_append] at h ⊢; show s.length + t.length + _ ≤ _; omega)
    (fun k ks s h => by
      unfold preTextK at h ⊢; unfold preText
      rw [allTextK] at h
      simp only [List.length_append] at h
      rw [eachS_text]
      simp only [List.length_append]
      constructor <;> omega)
    n (.agg #[.bool l, .slice a1 n1 c1, .slice a2 n2 c2, .slice a3 n3 c3]) [] w1 hn ⟨_, rfl, NodeC.keep hb1 (Nat.le_refl _) _ _ hc⟩ hb1.size hT (by unfold preText; have := allText_wt n; simp; omega)
  rw [eachS_text, List.nil_append] at hw
  have HW := Lib.hid hw
  have hmf : ∀ (fn : Fn) (first cap : Array Value) (w : World), (Instr.makeFunc fn first cap).run Tryz.prog w = .ok (.func fn first cap) w := fun _ _ _ _ => rfl
  have Hb1 := Lib.hid hb1; have Hw1 := Lib.hid hw1
  obtain ⟨⟨y0, y1, y2, y3⟩, -, yl⟩ := hN.out.f4
  clear hw hT hc hb1 hw1 hn
  go_enter Tryz.func23, Tryz.ntmps23
  go_upto_region 2 with fail
  rw [← Hw1.out]
  clear Hw1
  go_wp2_with fail
  refine HW.out.mono ?_
  rintro e w2 ⟨rfl, ⟨ta, tc, hA, ho⟩, hsp⟩
  have k0 := hA.cell 0 rfl; have kl := hA.lt
  obtain ⟨a', c', hsl, hr⟩ := row_of_own ho (by intro u hu; obtain ⟨z, -, rfl⟩ := List.mem_map.1 hu; rfl)
  have Hr := Lib.hid hr; have Hsl := Lib.hid hsl
  have Hb := Lib.hid (Hb1.out.trans hsp.below)
  clear HW hA ho hsp y0 y1 y2 y3 yl hr hsl hmf
  go_wp2_with fail
  go_ret
  refine ⟨Hb.out, ta, tc, rfl, ?_⟩
  have h1 := Hsl.out
  injection h1 with e1 e2 e3
  subst e1; subst e3
  exact Hr.out
/-- A text of runes, as a string. -/
theorem conv_text {w : World} {B : Nat} {a : Option Addr} {c : Nat} {L : List Int} (hr : RowA w B 1 a L.length c (L.map (Value.int .i32))) : (convert 32 9 (.slice a L.length c)).run Tryz.prog w = .ok (.string (runesBytes L)) w := by
  cases a with
  | none =>
    have hn0 : L.length = 0 := by have := hr.le; have h2 := hr.nil rfl; omega
    obtain rfl : L = [] := List.eq_nil_of_length_eq_zero hn0
    exact run_convert_runes_nil w _ _ 21 _ _ Tryz.underlying32 Tryz.underlying21 Tryz.underlying9
  | some ad =>
    have h := run_convert_runes (P := Tryz.prog) w 32 9 21 ad L.length c L (Nat.le_refl _) Tryz.underlying32 Tryz.underlying21 Tryz.underlying9 (fun j hj => by
      obtain ⟨b, off, ha, -, hc⟩ := hr.some_ (by intro e; simp at e; subst e; simp at hj)
      injection ha with ha
      subst ha
      rw [Addr.add_mid]
      exact hc j _ (by simp [List.getElem?_eq_getElem hj, List.getD]))
    rwa [List.take_length] at h
end Go.Proofs.YtaopoincbigjhaaGreatDoor
namespace Go.Proofs.YtaopoincbigjhaaGreatDoor
open Go.RowKit Go.Redl
set_option linter.unusedVariables false
set_option linter.unusedSimpArgs false

/-- What tree.Get answers, told alike whether there is such a node or not. -/
def errG (R : Option NodeD) : Int := match R with | none => 5 | some _ => 0
theorem GetP.alike {W : World} {R : Option NodeD} {e : Ending} {w' : World} (h : GetP W R e w') : Below W.heap.size W w' ∧ ∃ (x0 : Bool) (x1 x2 x3 : Option Addr) (y1 y2 y3 z1 z2 z3 : Nat),
    e = .returned (.tuple #[.agg #[.bool x0, .slice x1 y1 z1, .slice x2 y2 z2, .slice x3 y3 z3], .int .i64 (errG R)]) ∧ NodeQ w' (fun b => W.heap.size ≤ b) (R.getD zeroN) [.bool x0, .slice x1 y1 z1, .slice x2 y2 z2, .slice x3 y3 z3] := by
  cases R with
  | none =>
    obtain ⟨rfl, hb⟩ := h
    exact ⟨hb, _, _, _, _, _, _, _, _, _, _, rfl, zero_q _ _⟩
  | some m =>
    obtain ⟨cs, rfl, hq, hb⟩ := h
    obtain ⟨x0, x1, y1, z1, x2, y2, z2, x3, y3, z3, rfl⟩ := hq.form
    exact ⟨hb, x0, x1, x2, x3, y1, y2, y3, z1, z2, z3, rfl, hq⟩
end Go.Proofs.YtaopoincbigjhaaGreatDoor
