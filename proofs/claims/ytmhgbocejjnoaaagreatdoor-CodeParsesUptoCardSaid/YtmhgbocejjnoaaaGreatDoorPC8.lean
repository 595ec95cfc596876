/- Parts of the proof, one behind the other: RPB, RS4. -/
import Derived.Test.YtmhgbocejjnoaaaGreatDoorPC7
import Derived.Deep.LoopGhost
import Derived.Deep.DeepCutAuto
import Derived.Test.YtmhgbocejjnoaaaGreatDoorPC4
/- Walks: the reference reader's props. -/
namespace Go.Proofs.YtmhgbocejjnoaaaGreatDoor
open Go.RowKit Go.Redl
set_option linter.unusedVariables false

theorem own_only {N : Nat} {w w' : World} {base e sz n : Nat} {v : Value} {cs : List Value} (h : w.ownsRow base e sz v n cs) (ho : Only N w w') (hN : N < base) : w'.ownsRow base e sz v n cs := by
  refine h.kept ho ?_
  cases hv : v.ownBlock with
  | none => simp
  | some k =>
    have := (h.lt k hv).1
    simp
    try omega
theorem run_next (p : UInt8 → Bool) : ∀ (l : List UInt8) (j : Nat), j < (l.takeWhile p).length → p (l.getD j 0) = true
  | [], j, h => by simp at h
  | x :: l, j, h => by
    rw [List.takeWhile_cons] at h
    cases hx : p x with
    | false => rw [hx] at h; simp at h
    | true =>
      rw [hx] at h
      cases j with
      | zero => simpa using hx
      | succ j => simpa using run_next p l j (by simpa using h)
theorem run_stop (p : UInt8 → Bool) (h0 : p 0 = false) : ∀ (l : List UInt8), p (l.getD (l.takeWhile p).length 0) = false
  | [] => by simpa using h0
  | x :: l => by
    rw [List.takeWhile_cons]
    cases hx : p x with
    | false => simpa using hx
    | true => simpa using run_stop p h0 l
theorem getD_drop (s : List UInt8) (a j : Nat) : (s.drop a).getD j 0 = nextB s (a + j) := by simp [nextB, List.getD]
theorem key_next {s : List UInt8} {a j : Nat} (h : j < (keyAt s a).length) : lowB (nextB s (a + j)) = true := by rw [← getD_drop]; exact run_next lowB _ _ h
theorem key_stop (s : List UInt8) (a : Nat) : lowB (nextB s (a + (keyAt s a).length)) = false := by rw [← getD_drop]; exact run_stop lowB rfl _
theorem val_next {s : List UInt8} {a j : Nat} (h : j < (valAt s a).length) : valcB (nextB s (a + j)) = true := by rw [← getD_drop]; exact run_next valcB _ _ h
theorem val_stop (s : List UInt8) (a : Nat) : valcB (nextB s (a + (valAt s a).length)) = false := by rw [← getD_drop]; exact run_stop valcB rfl _
theorem leB_nil' {k : List UInt8} (h : k ≠ []) : leB k [] = false := by
  cases k with
  | nil => exact absurd rfl h
  | cons x r => simp [leB, Op.bytesLess]
/-- The last key. -/
def LastOf (out : List PropD) (last : List UInt8) : Prop := (out = [] ∧ last = []) ∨ ∃ m, out.length = m + 1 ∧ last = (out.getD m ([], [])).1
theorem lastOf_snoc (out : List PropD) (p : PropD) : LastOf (out ++ [p]) p.1 := .inr ⟨out.length, by simp, by simp [List.getD]⟩

theorem fail_c (N : Nat) (S : ByteArray) (a e0 p0 er pl : Int) (W : World) (hR : RdrAt W N S a e0 p0) :
    Calls Tryz.prog 19 #[.pointer (some ⟨N, 0, none⟩), .int .i64 er, .int .i64 pl] W fun e w' => e = .returned (.tuple #[]) ∧ Only N W w' ∧ RdrAt w' N S a (if e0 = 0 then er else e0) (if e0 = 0 then pl else p0) := by
  by_cases he : e0 = 0
  · subst he
    exact fail_yes N S a p0 er pl W hR
  · rw [if_neg he, if_neg he]
    exact (fail_no N S a e0 p0 er pl W hR he).mono fun e w1 h => ⟨h.1, h.2 ▸ Only.refl _ _, h.2 ▸ hR⟩
/-- So far no error, and this is left to be answered; or the error that is answered. -/
def Stat (R rem : Rd (List PropD)) (p0 e1 q1 : Int) : Prop := (e1 = 0 ∧ q1 = p0 ∧ R = rem) ∨ ∃ q : Nat, q1 = q ∧ e1 ≠ 0 ∧ R = .bad q e1
theorem Stat.yes {R rem : Rd (List PropD)} {p0 e1 q1 : Int} {c : Prop} [Decidable c] {q : Nat} {er : Int} (h : Stat R (if c then .bad q er else rem) p0 e1 q1) (hc : c) (her : er ≠ 0) (rem' : Rd (List PropD)) : Stat R rem' p0 (if e1 = 0 then er else e1) (if e1 = 0 then (q : Int) else q1) := by
  rcases h with ⟨rfl, rfl, h⟩ | ⟨q', rfl, h1, h2⟩
  · rw [if_pos hc] at h
    exact .inr ⟨q, by simp, by simpa using her, by simpa using h⟩
  · rw [if_neg h1, if_neg h1]
    exact .inr ⟨q', rfl, h1, h2⟩
theorem Stat.no {R rem : Rd (List PropD)} {p0 e1 q1 : Int} {c : Prop} [Decidable c] {q : Nat} {er : Int} (h : Stat R (if c then .bad q er else rem) p0 e1 q1) (hc : ¬ c) : Stat R rem p0 e1 q1 := by
  rcases h with ⟨rfl, rfl, h⟩ | h
  · rw [if_neg hc] at h
    exact .inl ⟨rfl, rfl, h⟩
  · exact .inr h
theorem Only.grown {N : Nat} {w w1 w2 : World} {r : Option Nat} (h : Only N w w1) (hg : w1.grownBy w2 r) (hr : ∀ k, r = some k → w.heap.size ≤ k) : Only N w w2 :=
  ⟨hg.os.trans h.os, hg.tape.trans h.tape, hg.output.trans h.output, Nat.le_trans h.size hg.size, fun i hi hne => (hg.block i (Nat.lt_of_lt_of_le hi h.size) (fun e => by have := hr i e.symm; omega)).trans (World.grownBy.block h i hi hne)⟩
theorem next_stands {s : List UInt8} {a : Nat} {c : UInt8} (h : standsB s a c = true) : nextB s a = c := by
  have hl := stands_lt h
  rw [next_in hl]
  unfold standsB at h
  rw [List.getElem?_eq_getElem hl] at h
  simpa using h
theorem next_not {s : List UInt8} {a : Nat} {c : UInt8} {n : Int} (h : standsB s a c = false) (h0 : c ≠ 0) (hn : (c.toNat : Int) = n) : (((nextB s a).toNat : Int) == n) = false := by
  subst hn
  simp only [beq_eq_false_iff_ne, ne_eq]
  intro e
  have e' : nextB s a = c := UInt8.toNat_inj.1 (by omega)
  rcases Nat.lt_or_ge a s.length with hl | hl
  · obtain ⟨x, hx, hxc⟩ := stands_ne h hl
    apply hxc
    rw [← e']
    unfold nextB
    simp [List.getD, hx]
  · rw [next_out hl] at e'
    exact h0 e'.symm
theorem own_row {w : World} {base e sz n c : Nat} {a : Option Addr} {cs : List Value} (h : w.ownsRow base e sz (.slice a n c) n cs) (h1 : ∀ u ∈ cs, u.oneCell' = true) : RowA w w.heap.size sz a n c cs := by
  obtain ⟨a', c', hv, hr⟩ := row_of_own h h1
  injection hv with e1 e2 e3
  subst e1; subst e3
  exact hr

def RPropsP (S : ByteArray) (n N : Nat) (p0 : Int) (W : World) (R : Rd (List PropD)) (e : Ending) (w' : World) : Prop :=
  match R with
  | .ok ps m => ∃ v, e = .returned v ∧ w'.ownsRow W.heap.size 41 2 v ps.length (propCells ps) ∧ RdrAt w' N S m 0 p0 ∧ Only N W w'
  | .bad q er => ∃ a1 n1 c1, e = .returned (.slice a1 n1 c1) ∧ er ≠ 0 ∧ (∃ a' : Nat, a' ≤ n ∧ RdrAt w' N S a' er q) ∧ Only N W w'

theorem rprops_end {S : ByteArray} {n N j n' : Nat} {p0 e1 q1 : Int} {W w' : World} {R : Rd (List PropD)} {ps : List PropD} {v : Value} (hR : (R = .ok ps (j + 1) ∧ e1 = 0 ∧ q1 = p0) ∨ ∃ q : Nat, q1 = q ∧ e1 ≠ 0 ∧ R = .bad q e1) (hn : ps.length = n')
    (hown : w'.ownsRow W.heap.size 41 2 v n' (propCells ps)) (hr : RdrAt w' N S ((j + 1 : Nat) : Int) e1 q1) (ho : Only N W w') (hj : j < n) (hv : ∃ a1 n1 c1, v = .slice a1 n1 c1) : RPropsP S n N p0 W R (.returned v) w' := by
  subst hn
  rcases hR with ⟨rfl, rfl, rfl⟩ | ⟨q, rfl, h2, rfl⟩
  · exact ⟨v, rfl, hown, hr, ho⟩
  · obtain ⟨a1, n1, c1, rfl⟩ := hv
    exact ⟨a1, n1, c1, rfl, h2, ⟨j + 1, hj, hr⟩, ho⟩

set_option maxRecDepth 100000 in
set_option maxHeartbeats 8000000 in
theorem rprops_c (s : List UInt8) (a0 N : Nat) (p0 : Int) (W : World) (hn : s.length ≤ 1000000) (h0 : standsB s a0 123 = true) (hR : RdrAt W N ⟨s.toArray⟩ a0 0 p0) :
    Calls Tryz.prog 36 #[.pointer (some ⟨N, 0, none⟩)] W (RPropsP ⟨s.toArray⟩ s.length N p0 W (rdP (s.length + 1) s a0 [] [])) := by
  obtain ⟨R, hRR⟩ : ∃ R, R = rdP (s.length + 1) s a0 [] [] := ⟨_, rfl⟩
  rw [← hRR]
  have HRR := Lib.hid hRR
  have Hcut := Lib.hid (cut_run s)
  have hsz : (⟨s.toArray⟩ : ByteArray).size = s.length := rfl
  have hNW : N < W.heap.size := hR.facts.2.2.2.2.2
  have ha0 := stands_lt h0
  have HT0 := Lib.hid (take_yes N a0 s 123 123 rfl 0 p0 W hR hn h0)
  have HNx := Lib.hid (fun (W' : World) (a : Nat) (e p : Int) (h : RdrAt W' N ⟨s.toArray⟩ a e p) (ha : a ≤ s.length) => Lib.hid (next_c N a s e p W' h hn ha))
  have HTy := Lib.hid (fun (W' : World) (a : Nat) (c : UInt8) (n : Int) (hc : (c.toNat : Int) = n) (h : RdrAt W' N ⟨s.toArray⟩ a 0 p0) (hs : standsB s a c = true) => Lib.hid (take_yes N a s c n hc 0 p0 W' h hn hs))
  have HTf := Lib.hid (fun (W' : World) (a : Nat) (c : UInt8) (n : Int) (hc : (c.toNat : Int) = n) (h : RdrAt W' N ⟨s.toArray⟩ a 0 p0) (ha : a ≤ s.length) (hs : standsB s a c = false) => Lib.hid (take_fail N a s c n hc p0 W' h hn ha hs))
  have HTo := Lib.hid (fun (W' : World) (a : Nat) (c : UInt8) (n e0 p : Int) (hc : (c.toNat : Int) = n) (h : RdrAt W' N ⟨s.toArray⟩ a e0 p) (he : e0 ≠ 0) (ha : a ≤ s.length) => Lib.hid (take_on N a s c n hc e0 p he W' h hn ha))
  have HFy := Lib.hid (fun (W' : World) (a er pl : Int) (h : RdrAt W' N ⟨s.toArray⟩ a 0 p0) => Lib.hid (fail_yes N _ a p0 er pl W' h))
  have HFn := Lib.hid (fun (W' : World) (a e0 p er pl : Int) (h : RdrAt W' N ⟨s.toArray⟩ a e0 p) => Lib.hid (fail_c N _ a e0 p er pl W' h))
  have HLt := Lib.hid (fun (c : UInt8) (W' : World) => Lib.hid (letter_c c W'))
  obtain ⟨S, hS⟩ : ∃ S, S = (⟨s.toArray⟩ : ByteArray) := ⟨_, rfl⟩
  rw [← hS] at Hcut hsz HT0 HNx HTy HTf HTo HFy HFn ⊢
  clear hRR hS hR h0
  go_enter Tryz.func36, Tryz.ntmps36
  go_wp2_with fail
  refine HT0.out.mono ?_
  rintro e w1 ⟨rfl, ho1, hr1⟩
  have Ho1 := Lib.hid ho1; have Hr1 := Lib.hid hr1
  clear ho1 hr1 HT0
  go_wp2_with fail
  go_loopg [3] (s.length + 1) (fun g o wr => (∃ (a : Nat) (out : List PropD) (last : List UInt8), a < s.length ∧ s.length < g + a ∧ rdP g s a out last = R ∧ LastOf out last ∧ out.length ≤ a ∧ wr.ownsRow W.heap.size 41 2 o out.length (propCells out) ∧ RdrAt wr N S ((a + 1 : Nat) : Int) 0 p0 ∧ Only N W wr) ∨
    (∃ (a' q : Nat) (er : Int), er ≠ 0 ∧ R = .bad q er ∧ a' ≤ s.length ∧ RdrAt wr N S a' er q ∧ Only N W wr))
  case atStart => exact .inl ⟨a0, [], [], ha0, by omega, HRR.out.symm, .inl ⟨rfl, rfl⟩, by simp, World.ownsRow_nil _ _ _ _, Hr1.out, Ho1.out⟩
  case round =>
    rcases hrel with ⟨a, out, last, hal, hf, hr, hlast, hoa, hown, hrd, honly⟩ | ⟨a', q, er, her, hRb, ha', hrd, honly⟩
    · obtain ⟨f, rfl⟩ : ∃ f, gk = f + 1 := ⟨gk - 1, by omega⟩
      obtain ⟨oa, oc, rfl, horow⟩ := row_of_own hown (propCells_one _)
      have hoc := horow.le
      obtain ⟨key, hkey⟩ : ∃ key, keyAt s (a + 1) = key := ⟨_, rfl⟩
      obtain ⟨val, hval⟩ : ∃ val, valAt s (a + 1 + key.length + 1) = val := ⟨_, rfl⟩
      have hstep := rdP_step f s a out last key val hkey hval
      rw [hr] at hstep
      have Hstep := Lib.hid hstep
      have hkl := keyAt_len s (a + 1) (by omega)
      have Hkn := Lib.hid (fun (j : Nat) => key_next (s := s) (a := a + 1) (j := j))
      have Hks := Lib.hid (key_stop s (a + 1))
      rw [hkey] at hkl Hkn Hks
      have hkc := Hcut.out (a + 1) key (by rw [← hkey]; exact takeWhile_pre _ _)
      obtain ⟨x0, x1, x2, x3, -, hN⟩ := hrd.facts
      have Hown := Lib.hid hown; have Hrd := Lib.hid hrd; have Ho := Lib.hid honly; have Hlast := Lib.hid hlast; have Hval := Lib.hid hval; have Horow := Lib.hid horow
      obtain ⟨K, hK⟩ : ∃ K, K = (⟨key.toArray⟩ : ByteArray) := ⟨_, rfl⟩
      rw [← hK] at hkc
      have HK := Lib.hid hK
      clear hstep hr hown hrd honly hkey hlast hval horow Ho1 Hr1 HRR hK
      go_wp2_with fail
      clear x0 x1 x2 x3 hN
      go_loopg [] key.length (fun g wi => ∃ m : Nat, m + g = a + 1 + key.length ∧ a + 1 ≤ m ∧ RdrAt wi N S m 0 p0 ∧ Only N W wi ∧ wi.ownsRow W.heap.size 41 2 (.slice oa out.length oc) out.length (propCells out))
      case atStart => exact ⟨a + 1, by omega, by omega, Hrd.out, Ho.out, Hown.out⟩
      case round =>
        obtain ⟨m, hm, hm1, hrd, honly, hown⟩ := hrel
        have HN1 := HNx.out _ m _ _ hrd (by omega)
        obtain ⟨x0, x1, x2, x3, ⟨f1, f2, f3⟩, hN⟩ := hrd.facts
        have Hrd2 := Lib.hid hrd; have Ho2 := Lib.hid honly; have Hown2 := Lib.hid hown
        clear hrd honly hown Hrd Ho Hown
        cases gk with
        | succ gk =>
          as_aux_lemma =>
          have hlow := Hkn.out (m - (a + 1)) (by omega)
          rw [show a + 1 + (m - (a + 1)) = m by omega] at hlow
          generalize nextB s m = c at HN1 hlow
          have HL1 := fun W' => HLt.out c W'
          rw [hlow] at HL1
          clear hlow
          have Hset := fun q => Lib.hid ((Hrd2.out.drew q).setA ((m + 1 : Nat) : Int))
          have Hoset := fun q => Lib.hid ((Ho2.out.drewN q).set (o := 1) (.int .i64 ((m + 1 : Nat) : Int)))
          have Hwset := fun q => Lib.hid (own_only Hown2.out (((Only.refl N wr).drewN q).set (o := 1) (.int .i64 ((m + 1 : Nat) : Int))) hNW)
          go_wp2_with fail
          refine HN1.out.mono ?_
          rintro e w2 ⟨rfl, q, rfl⟩
          clear HN1
          go_wp2_with fail
          refine (HL1 _).out.mono ?_
          rintro e w2 ⟨rfl, rfl⟩
          clear HL1
          go_wp2_with fail
          go_roundg gk
          case measure => omega
          case rel => exact ⟨m + 1, by omega, by omega, (Hset _).out, (Hoset _).out, (Hwset _).out⟩
        | zero =>
          obtain ⟨b, hb⟩ : ∃ b, b = a + 1 + key.length := ⟨_, rfl⟩
          obtain rfl : m = b := by omega
          have hlow := Hks.out
          rw [← hb] at hlow hkc
          generalize nextB s m = c at HN1 hlow
          have HL1 := fun W' => HLt.out c W'
          rw [hlow] at HL1
          clear hlow Hkn Hks
          cases key with
          | nil =>
            as_aux_lemma =>
            have hKe : K.toList.isEmpty = true := by rw [HK.out, ByteArray.toList_mk]; rfl
            have HRb : Hid (R = .bad m 11) := by
              show R = _
              rw [Hstep.out, if_pos (.inl rfl), hb]
            have HF1 := fun q => HFy.out _ m 11 m (Hrd2.out.drew q)
            have hmle : m ≤ s.length := by omega
            clear hb hm Hstep Hval HK Hlast Horow
            go_wp2_with fail
            refine HN1.out.mono ?_
            rintro e w2 ⟨rfl, q, rfl⟩
            clear HN1
            go_wp2_with fail
            refine (HL1 _).out.mono ?_
            rintro e w2 ⟨rfl, rfl⟩
            clear HL1
            go_wp2_with fail
            go_quiet (fail)
            go_wp2_with fail
            refine (HF1 _).out.mono ?_
            rintro e w2 ⟨rfl, ho, hr⟩
            have Ho3 := Lib.hid ((Ho2.out.drewN _).trans ho); have Hr3 := Lib.hid hr
            clear HF1 ho hr x0 x1 x2 x3 f1 f2 f3
            go_wp2_with fail
            go_ret
            rw [HRb.out]
            exact ⟨_, _, _, rfl, by decide, ⟨m, hmle, Hr3.out⟩, Ho3.out⟩
          | cons kc kr =>
            obtain ⟨key, hkey⟩ : ∃ key, key = kc :: kr := ⟨_, rfl⟩
            have hkne : key ≠ [] := by rw [hkey]; simp
            have hk1 : 1 ≤ key.length := by rw [hkey]; simp
            rw [← hkey] at hb hkl hm HK Hstep Hval
            clear hkey
            have hKe : K.toList.isEmpty = false := by rw [HK.out, ByteArray.toList_mk]; cases key with | nil => exact absurd rfl hkne | cons _ _ => rfl
            have hKs : K.size = key.length := by rw [HK.out]; rfl
            rw [← hb] at Hstep Hval hkl
            have hb1 : m ≤ a + 1 + key.length := by omega
            have hb2 : a + 1 + key.length ≤ m := by omega
            clear hb hm
            cases h58 : standsB s m 58 with
            | false =>
              as_aux_lemma =>
              have HRb : Hid (R = .bad m 11) := by
                show R = _
                rw [Hstep.out, if_pos (.inr h58)]
              have HT1 := fun q => HTf.out _ m 58 58 rfl (Hrd2.out.drew q) (by omega) h58
              clear Hstep Hval HK Hlast Horow h58
              go_wp2_with fail
              refine HN1.out.mono ?_
              rintro e w2 ⟨rfl, q, rfl⟩
              clear HN1
              go_wp2_with fail
              refine (HL1 _).out.mono ?_
              rintro e w2 ⟨rfl, rfl⟩
              clear HL1
              go_wp2_with fail
              go_quiet (fail)
              go_wp2_with fail
              refine (HT1 _).out.mono ?_
              rintro e w2 ⟨rfl, ho, hr⟩
              have Ho3 := Lib.hid ((Ho2.out.drewN _).trans ho); have Hr3 := Lib.hid hr
              clear HT1 ho x0 x1 x2 x3 f1 f2 f3
              obtain ⟨x0, x1, x2, x3, ⟨f1, f2, f3⟩, hN3⟩ := hr.facts
              clear hr Hrd2 Ho2 Hown2 hN
              go_wp2_with fail
              go_loopg [] 0 (fun g wi => RdrAt wi N S m 11 m ∧ Only N W wi)
              case atStart => exact ⟨Hr3.out, Ho3.out⟩
              case round =>
                obtain ⟨hr, ho⟩ := hrel
                have Hr4 := Lib.hid hr; have Ho4 := Lib.hid ho
                clear x0 x1 x2 x3 f1 f2 f3
                obtain ⟨x0, x1, x2, x3, ⟨f1, f2, f3⟩, hN4⟩ := hr.facts
                clear hr ho Hr3 Ho3
                go_wp2_with fail
                go_quiet (fail)
                go_wp2_with fail
                go_ret
                rw [HRb.out]
                exact ⟨_, _, _, rfl, by decide, ⟨m, by omega, Hr4.out.drew _⟩, Ho4.out.drewN _⟩
            | true =>
              have HT1 := fun q => HTy.out _ m 58 58 rfl (Hrd2.out.drew q) h58
              have ha2 := stands_lt h58
              have hvl := valAt_len s (m + 1) (by omega)
              have Hvn := Lib.hid (fun (j : Nat) => val_next (s := s) (a := m + 1) (j := j))
              have Hvs := Lib.hid (val_stop s (m + 1))
              rw [Hval.out] at hvl Hvn Hvs
              have hvc := Hcut.out (m + 1) val (by rw [← Hval.out]; exact takeWhile_pre _ _)
              have Hs2 : Hid (R = if out.length = 16 then .bad (a + 1) 2
                  else if 16 < key.length ∨ 32 < val.length then .bad (a + 1) 3
                  else if leB key last = true then .bad (a + 1) 1
                  else if standsB s (m + 1 + val.length) 125 = true then .ok (out ++ [(key, val)]) (m + 1 + val.length + 1)
                  else if standsB s (m + 1 + val.length) 44 = false then .bad (m + 1 + val.length) 11
                  else rdP f s (m + 1 + val.length) (out ++ [(key, val)]) key) := by
                show R = _
                rw [Hstep.out, if_neg (by simp [hkne, h58])]
              obtain ⟨V, hV⟩ : ∃ V, V = (⟨val.toArray⟩ : ByteArray) := ⟨_, rfl⟩
              rw [← hV] at hvc
              have HV := Lib.hid hV
              have hVs : V.size = val.length := by rw [hV]; rfl
              clear Hstep Hval h58 hV
              go_wp2_with fail
              refine HN1.out.mono ?_
              rintro e w2 ⟨rfl, q, rfl⟩
              clear HN1
              go_wp2_with fail
              refine (HL1 _).out.mono ?_
              rintro e w2 ⟨rfl, rfl⟩
              clear HL1
              go_wp2_with fail
              go_quiet (fail)
              go_wp2_with fail
              refine (HT1 _).out.mono ?_
              rintro e w2 ⟨rfl, ho, hr⟩
              have Ho3 := Lib.hid ((Ho2.out.drewN _).trans ho); have Hr3 := Lib.hid hr; have Hown3 := Lib.hid (own_only Hown2.out (((Only.refl N _).drewN _).trans ho) hNW)
              clear HT1 ho x0 x1 x2 x3 f1 f2 f3
              obtain ⟨x0, x1, x2, x3, ⟨f1, f2, f3⟩, hN3⟩ := hr.facts
              clear hr Hrd2 Ho2 Hown2 hN
              go_wp2_with fail
              clear x0 x1 x2 x3 f1 f2 f3 hN3
              go_loopg [] val.length (fun g wi => ∃ j : Nat, j + g = m + 1 + val.length ∧ m + 1 ≤ j ∧ RdrAt wi N S j 0 p0 ∧ Only N W wi ∧ wi.ownsRow W.heap.size 41 2 (.slice oa out.length oc) out.length (propCells out))
              case atStart => exact ⟨m + 1, by omega, by omega, Hr3.out, Ho3.out, Hown3.out⟩
              case round =>
                obtain ⟨j, hj, hj1, hrd, honly, hown⟩ := hrel
                have HN0 := HNx.out _ j _ _ hrd (by omega)
                have HNq := fun q => HNx.out _ j _ _ (hrd.drew q) (by omega)
                have Hv1 := fun (h : 1 ≤ gk) => Hvn.out (j - (m + 1)) (by omega)
                rw [show m + 1 + (j - (m + 1)) = j by omega] at Hv1
                have Hv0 := fun (h : gk = 0) => show valcB (nextB s j) = false by rw [show j = m + 1 + val.length by omega]; exact Hvs.out
                obtain ⟨x0, x1, x2, x3, ⟨f1, f2, f3⟩, hN4⟩ := hrd.facts
                have Hrd4 := Lib.hid hrd; have Ho4 := Lib.hid honly; have Hown4 := Lib.hid hown
                clear hrd honly hown Hr3 Ho3 Hown3
                generalize nextB s j = c2 at HN0 HNq Hv1 Hv0
                have Hv1 := Lib.hid Hv1; have Hv0 := Lib.hid Hv0
                have HL2 := fun W' => HLt.out c2 W'
                have Hvc : Hid (valcB c2 = (lowB c2 || decide (48 ≤ c2.toNat ∧ c2.toNat ≤ 57) || c2 == 45)) := rfl
                have Hc45 : Hid ((c2 == 45) = ((c2.toNat : Int) == 45)) := by
                  show (c2 == 45) = _
                  rw [Bool.eq_iff_iff]; simp [← UInt8.toNat_inj]
                  omega
                go_upto_region 13 with fail
                go_cut [77] (fun b wx => b = .bool (valcB c2) ∧ ∃ q, wx = wr.drewN q)
                case first =>
                  as_aux_lemma =>
                  cases hl : lowB c2 with
                  | true =>
                    rw [hl] at HL2
                    have Hb : Hid (valcB c2 = true) := by show _ = _; rw [Hvc.out, hl]; simp
                    clear hl Hvc
                    go_wp2_with fail
                    refine HN0.out.mono ?_
                    rintro e w2 ⟨rfl, q, rfl⟩
                    go_wp2_with fail
                    refine (HL2 _).out.mono ?_
                    rintro e w2 ⟨rfl, rfl⟩
                    go_wp2_with fail
                    go_meet
                    case rel => exact ⟨by rw [Hb.out], _, rfl⟩
                  | false =>
                    rw [hl] at HL2
                    by_cases h48 : 48 ≤ c2.toNat
                    · have d48 : decide ((48 : Int) ≤ (c2.toNat : Int)) = true := by simp; omega
                      by_cases h57 : c2.toNat ≤ 57
                      · have d57 : decide ((c2.toNat : Int) ≤ 57) = true := by simp; omega
                        have Hb : Hid (valcB c2 = true) := by show _ = _; rw [Hvc.out, hl, decide_eq_true (p := 48 ≤ c2.toNat ∧ c2.toNat ≤ 57) ⟨h48, h57⟩]; simp
                        clear hl Hvc h48 h57
                        go_wp2_with fail
                        refine HN0.out.mono ?_
                        rintro e w2 ⟨rfl, q, rfl⟩
                        go_wp2_with fail
                        refine (HL2 _).out.mono ?_
                        rintro e w2 ⟨rfl, rfl⟩
                        go_wp2_with fail
                        refine (HNq _).out.mono ?_
                        rintro e w2 ⟨rfl, q0, rfl⟩
                        go_wp2_with fail
                        refine (HNq _).out.mono ?_
                        rintro e w2 ⟨rfl, q1, rfl⟩
                        go_wp2_with fail
                        go_meet
                        case rel => exact ⟨by rw [Hb.out], _, rfl⟩
                      · have d57 : decide ((c2.toNat : Int) ≤ 57) = false := by simp; omega
                        have d45 : ((c2.toNat : Int) == 45) = false := by simp; omega
                        have Hb : Hid (valcB c2 = false) := by show _ = _; rw [Hvc.out, hl, Hc45.out, d45, decide_eq_false (p := 48 ≤ c2.toNat ∧ c2.toNat ≤ 57) (fun h => h57 h.2)]; simp
                        clear hl Hvc h48 h57
                        go_wp2_with fail
                        refine HN0.out.mono ?_
                        rintro e w2 ⟨rfl, q, rfl⟩
                        go_wp2_with fail
                        refine (HL2 _).out.mono ?_
                        rintro e w2 ⟨rfl, rfl⟩
                        go_wp2_with fail
                        refine (HNq _).out.mono ?_
                        rintro e w2 ⟨rfl, q0, rfl⟩
                        go_wp2_with fail
                        refine (HNq _).out.mono ?_
                        rintro e w2 ⟨rfl, q1, rfl⟩
                        go_wp2_with fail
                        refine (HNq _).out.mono ?_
                        rintro e w2 ⟨rfl, q2, rfl⟩
                        go_wp2_with fail
                        go_meet
                        case rel => exact ⟨by rw [Hb.out], _, rfl⟩
                    · have d48 : decide ((48 : Int) ≤ (c2.toNat : Int)) = false := by simp; omega
                      cases d45 : ((c2.toNat : Int) == 45) with
                      | true =>
                        have Hb : Hid (valcB c2 = true) := by show _ = _; rw [Hvc.out, hl, Hc45.out, d45]; simp
                        clear hl Hvc h48
                        go_wp2_with fail
                        refine HN0.out.mono ?_
                        rintro e w2 ⟨rfl, q, rfl⟩
                        go_wp2_with fail
                        refine (HL2 _).out.mono ?_
                        rintro e w2 ⟨rfl, rfl⟩
                        go_wp2_with fail
                        refine (HNq _).out.mono ?_
                        rintro e w2 ⟨rfl, q0, rfl⟩
                        go_wp2_with fail
                        refine (HNq _).out.mono ?_
                        rintro e w2 ⟨rfl, q1, rfl⟩
                        go_wp2_with fail
                        go_meet
                        case rel => exact ⟨by rw [Hb.out], _, rfl⟩
                      | false =>
                        have Hb : Hid (valcB c2 = false) := by show _ = _; rw [Hvc.out, hl, Hc45.out, d45, decide_eq_false (p := 48 ≤ c2.toNat ∧ c2.toNat ≤ 57) (fun h => h48 h.1)]; simp
                        clear hl Hvc h48
                        go_wp2_with fail
                        refine HN0.out.mono ?_
                        rintro e w2 ⟨rfl, q, rfl⟩
                        go_wp2_with fail
                        refine (HL2 _).out.mono ?_
                        rintro e w2 ⟨rfl, rfl⟩
                        go_wp2_with fail
                        refine (HNq _).out.mono ?_
                        rintro e w2 ⟨rfl, q0, rfl⟩
                        go_wp2_with fail
                        refine (HNq _).out.mono ?_
                        rintro e w2 ⟨rfl, q1, rfl⟩
                        go_wp2_with fail
                        go_meet
                        case rel => exact ⟨by rw [Hb.out], _, rfl⟩
                case rest =>
                  as_aux_lemma =>
                  obtain ⟨rfl, q, rfl⟩ := hcut
                  clear HN0 HNq HL2 Hvc Hc45
                  cases gk with
                  | succ gk =>
                    as_aux_lemma =>
                    have hb := Hv1.out (by omega)
                    have Hset := fun q => Lib.hid ((Hrd4.out.drew q).setA ((j + 1 : Nat) : Int))
                    have Hoset := fun q => Lib.hid ((Ho4.out.drewN q).set (o := 1) (.int .i64 ((j + 1 : Nat) : Int)))
                    have Hwset := fun q => Lib.hid (own_only Hown4.out (((Only.refl N wr).drewN q).set (o := 1) (.int .i64 ((j + 1 : Nat) : Int))) hNW)
                    generalize valcB c2 = b at hb Hv1 Hv0
                    subst hb
                    clear Hv1 Hv0
                    go_wp2_with fail
                    go_roundg gk
                    case measure => omega
                    case rel => exact ⟨j + 1, by omega, by omega, (Hset _).out, (Hoset _).out, (Hwset _).out⟩
                  | zero =>
                    have hb := Hv0.out rfl
                    generalize valcB c2 = b at hb Hv1 Hv0
                    subst hb
                    clear Hv1 Hv0
                    go_wp2_with fail
                    have hjj : m + 1 + val.length = j := by omega
                    rw [hjj] at hvc Hs2 hvl
                    have hj2 : m + 1 + val.length ≤ j := by omega
                    have hj3 : j ≤ m + 1 + val.length := by omega
                    have Hst := Lib.hid (show Stat R (if out.length = 16 then .bad (a + 1) 2 else if 16 < key.length ∨ 32 < val.length then .bad (a + 1) 3 else if leB key last = true then .bad (a + 1) 1 else if standsB s j 125 = true then .ok (out ++ [(key, val)]) (j + 1) else if standsB s j 44 = false then .bad j 11 else rdP f s j (out ++ [(key, val)]) key) p0 0 p0 from .inl ⟨rfl, rfl, Hs2.out⟩)
                    clear hj hjj Hs2 Hvn Hvs
                    go_quiet (fail)
                    go_upto_if 102 with fail
                    have Hrd5 := fun q => Lib.hid (Hrd4.out.drew q)
                    have Ho5 := fun q => Lib.hid (Ho4.out.drewN q)
                    have Hown5 := fun q => Lib.hid (own_only Hown4.out ((Only.refl N wr).drewN q) hNW)
                    have HF := fun q => HFn.out _ j 0 p0 2 ((a : Int) + 1) (Hrd5 q).out
                    go_cut [] (fun wx => ∃ e1 q1 : Int, RdrAt wx N S j e1 q1 ∧ Only N W wx ∧ wx.ownsRow W.heap.size 41 2 (.slice oa out.length oc) out.length (propCells out) ∧ Stat R (if 16 < key.length ∨ 32 < val.length then .bad (a + 1) 3 else if leB key last = true then .bad (a + 1) 1 else if standsB s j 125 = true then .ok (out ++ [(key, val)]) (j + 1) else if standsB s j 44 = false then .bad j 11 else rdP f s j (out ++ [(key, val)]) key) p0 e1 q1)
                    case first =>
                      as_aux_lemma =>
                      by_cases h16 : out.length = 16
                      · have b16 : ((out.length : Int) == 16) = true := by simp; omega
                        have H16 := Lib.hid h16
                        clear h16
                        go_wp2_with fail
                        refine (HF _).out.mono ?_
                        rintro e w2 ⟨rfl, ho, hr⟩
                        have Ho9 := Lib.hid ((Ho5 _).out.trans ho); have Hr9 := Lib.hid hr; have Hown9 := Lib.hid (own_only (Hown5 _).out ho hNW)
                        clear ho hr HF
                        go_wp2_with fail
                        go_meet
                        case rel => exact ⟨_, _, Hr9.out, Ho9.out, Hown9.out, Hst.out.yes H16.out (by decide) _⟩
                      · have b16 : ((out.length : Int) == 16) = false := by simp; omega
                        go_wp2_with fail
                        go_meet
                        case rel => exact ⟨_, _, (Hrd5 _).out, (Ho5 _).out, (Hown5 _).out, Hst.out.no h16⟩
                    case rest =>
                      as_aux_lemma =>
                      clear x0 x1 x2 x3 f1 f2 f3 hN4 HF Hrd5 Ho5 Hown5 Hrd4 Ho4 Hown4 Hst
                      obtain ⟨e1, q1, hrd, honly, hown, hst⟩ := hcut
                      have Hrd5 := Lib.hid hrd; have Ho5 := Lib.hid honly; have Hown5 := Lib.hid hown; have Hst := Lib.hid hst
                      obtain ⟨x0, x1, x2, x3, ⟨f1, f2, f3⟩, hN5⟩ := hrd.facts
                      clear hrd honly hown hst
                      go_upto_region 20 with fail
                      go_cut [113] (fun b wx => b = .bool (decide (16 < key.length ∨ 32 < val.length)) ∧ wx = wc)
                      case first =>
                        as_aux_lemma =>
                        by_cases hk16 : 16 < key.length
                        · have hk16i : decide ((16 : Int) < key.length) = true := by simp; omega
                          have hd := Lib.hid (decide_eq_true (p := 16 < key.length ∨ 32 < val.length) (.inl hk16))
                          go_wp2_with fail
                          go_meet
                          case rel => exact ⟨by rw [hd.out], rfl⟩
                        · have hk16i : decide ((16 : Int) < key.length) = false := by simp; omega
                          by_cases hv32 : 32 < val.length
                          · have hv32i : decide ((32 : Int) < val.length) = true := by simp; omega
                            have hd := Lib.hid (decide_eq_true (p := 16 < key.length ∨ 32 < val.length) (.inr hv32))
                            go_wp2_with fail
                            go_meet
                            case rel => exact ⟨by rw [hd.out], rfl⟩
                          · have hv32i : decide ((32 : Int) < val.length) = false := by simp; omega
                            have hd := Lib.hid (decide_eq_false (p := 16 < key.length ∨ 32 < val.length) (fun h => h.elim hk16 hv32))
                            go_wp2_with fail
                            go_meet
                            case rel => exact ⟨by rw [hd.out], rfl⟩
                      case rest =>
                      as_aux_lemma =>
                      obtain ⟨rfl, rfl⟩ := hcut
                      obtain ⟨d, hd⟩ : ∃ d, d = decide (16 < key.length ∨ 32 < val.length) := ⟨_, rfl⟩
                      rw [← hd]
                      have Hd := Lib.hid hd
                      clear hd
                      go_upto_if 113 with fail
                      have HF := HFn.out _ j e1 q1 3 ((a : Int) + 1) Hrd5.out
                      go_cut [] (fun wx => ∃ e1 q1 : Int, RdrAt wx N S j e1 q1 ∧ Only N W wx ∧ wx.ownsRow W.heap.size 41 2 (.slice oa out.length oc) out.length (propCells out) ∧ Stat R (if leB key last = true then .bad (a + 1) 1 else if standsB s j 125 = true then .ok (out ++ [(key, val)]) (j + 1) else if standsB s j 44 = false then .bad j 11 else rdP f s j (out ++ [(key, val)]) key) p0 e1 q1)
                      case first =>
                        as_aux_lemma =>
                        cases d with
                        | true =>
                          have Hc := Lib.hid (of_decide_eq_true Hd.out.symm)
                          go_wp2_with fail
                          refine HF.out.mono ?_
                          rintro e w2 ⟨rfl, ho, hr⟩
                          have Ho9 := Lib.hid (Ho5.out.trans ho); have Hr9 := Lib.hid hr; have Hown9 := Lib.hid (own_only Hown5.out ho hNW)
                          clear ho hr HF
                          go_wp2_with fail
                          go_meet
                          case rel => exact ⟨_, _, Hr9.out, Ho9.out, Hown9.out, Hst.out.yes Hc.out (by decide) _⟩
                        | false =>
                          have Hc := Lib.hid (of_decide_eq_false Hd.out.symm)
                          go_wp2_with fail
                          go_meet
                          case rel => exact ⟨_, _, Hrd5.out, Ho5.out, Hown5.out, Hst.out.no Hc.out⟩
                      case rest =>
                        as_aux_lemma =>
                        clear x0 x1 x2 x3 f1 f2 f3 hN5 HF Hrd5 Ho5 Hown5 Hst Hd d e1 q1
                        obtain ⟨e1, q1, hrd, honly, hown, hst⟩ := hcut
                        have Hrd5 := Lib.hid hrd; have Ho5 := Lib.hid honly; have Hown5 := Lib.hid hown; have Hst := Lib.hid hst
                        obtain ⟨x0, x1, x2, x3, ⟨f1, f2, f3⟩, hN5⟩ := hrd.facts
                        clear hrd honly hown hst
                        go_upto_region 22 with fail
                        go_cut [130] (fun b wx => b = .bool (leB key last) ∧ wx = wc)
                        case first =>
                          as_aux_lemma =>
                          rcases Hlast.out with ⟨ho, hl⟩ | ⟨m', hm', hl⟩
                          · have Hle : Hid (leB key last = false) := by show _ = _; rw [hl]; exact leB_nil' hkne
                            have hl0 : (out.length : Int) ≤ 0 := by rw [ho]; simp
                            clear hl ho
                            go_wp2_with fail
                            go_meet
                            case rel => exact ⟨by rw [Hle.out], rfl⟩
                          · have hlt : m' < out.length := by omega
                            obtain ⟨b, off, rfl, hbb, hc0, hc1⟩ := (own_row Hown5.out (propCells_one _)).prop_at m' hlt
                            rw [getD_of_lt hlt] at hl
                            rw [← hl] at hc0
                            have hsub : (out.length : Int) - 1 = (m' : Int) := by omega
                            have hgt : (0 : Int) < out.length := by omega
                            have hlti : (m' : Int) < out.length := by omega
                            have Hle : Hid (leB key last = (Op.bytesLess K.toList (⟨last.toArray⟩ : ByteArray).toList || K.toList == (⟨last.toArray⟩ : ByteArray).toList)) := by
                              show leB key last = _
                              rw [HK.out, str_le]
                            generalize (⟨last.toArray⟩ : ByteArray) = L at hc0 Hle
                            clear hm' hl hc1
                            cases hx : Op.bytesLess K.toList L.toList with
                            | true =>
                              as_aux_lemma =>
                              have Hle2 : Hid (leB key last = true) := by show _ = _; rw [Hle.out, hx]; rfl
                              clear Hle
                              go_wp2_with fail
                              go_meet
                              case rel => exact ⟨by rw [Hle2.out], rfl⟩
                            | false =>
                              as_aux_lemma =>
                              cases hy : (K.toList == L.toList) with
                              | true =>
                                have Hle2 : Hid (leB key last = true) := by show _ = _; rw [Hle.out, hx, hy]; rfl
                                clear Hle
                                go_wp2_with fail
                                go_meet
                                case rel => exact ⟨by rw [Hle2.out], rfl⟩
                              | false =>
                                have Hle2 : Hid (leB key last = false) := by show _ = _; rw [Hle.out, hx, hy]; rfl
                                clear Hle
                                go_wp2_with fail
                                go_meet
                                case rel => exact ⟨by rw [Hle2.out], rfl⟩
                        case rest =>
                          as_aux_lemma =>
                          obtain ⟨rfl, rfl⟩ := hcut
                          obtain ⟨d, hd⟩ : ∃ d, d = leB key last := ⟨_, rfl⟩
                          rw [← hd]
                          have Hd := Lib.hid hd
                          clear hd
                          go_upto_if 130 with fail
                          have HF := HFn.out _ j e1 q1 1 ((a : Int) + 1) Hrd5.out
                          go_cut [] (fun wx => ∃ e1 q1 : Int, RdrAt wx N S j e1 q1 ∧ Only N W wx ∧ wx.ownsRow W.heap.size 41 2 (.slice oa out.length oc) out.length (propCells out) ∧ Stat R (if standsB s j 125 = true then .ok (out ++ [(key, val)]) (j + 1) else if standsB s j 44 = false then .bad j 11 else rdP f s j (out ++ [(key, val)]) key) p0 e1 q1)
                          case first =>
                            as_aux_lemma =>
                            cases d with
                            | true =>
                              as_aux_lemma =>
                              go_wp2_with fail
                              refine HF.out.mono ?_
                              rintro e w2 ⟨rfl, ho, hr⟩
                              have Ho9 := Lib.hid (Ho5.out.trans ho); have Hr9 := Lib.hid hr; have Hown9 := Lib.hid (own_only Hown5.out ho hNW)
                              clear ho hr HF
                              go_wp2_with fail
                              go_meet
                              case rel => exact ⟨_, _, Hr9.out, Ho9.out, Hown9.out, Hst.out.yes Hd.out.symm (by decide) _⟩
                            | false =>
                              as_aux_lemma =>
                              go_wp2_with fail
                              go_meet
                              case rel => exact ⟨_, _, Hrd5.out, Ho5.out, Hown5.out, Hst.out.no (by rw [← Hd.out]; decide)⟩
                          case rest =>
                            as_aux_lemma =>
                            clear x0 x1 x2 x3 f1 f2 f3 hN5 HF Hrd5 Ho5 Hown5 Hst Hd d e1 q1
                            obtain ⟨e1, q1, hrd, honly, hown, hst⟩ := hcut
                            have Hrd5 := Lib.hid hrd; have Ho5 := Lib.hid honly; have Hown5 := Lib.hid hown; have Hst := Lib.hid hst
                            obtain ⟨x0, x1, x2, x3, ⟨f1, f2, f3⟩, hN5⟩ := hrd.facts
                            clear hrd honly hown hst
                            have hout : out.length ≤ 1000000 := by omega
                            go_wp2_with (at_builtin; refine wpList_app rfl _ _ 23 rfl W.heap.size 41 (.agg #[.string ⟨#[]⟩, .string ⟨#[]⟩]) 2 32 Tryz.underlying23 info_prop rfl (by decide) _ _ _ rfl (Hown5.out.alloc _) (some ⟨wc.heap.size, 0, none⟩) 1 1 (wc.heap.size + 1) [.string K, .string V] rfl ?hr ?h63 ?hb ?hbase ?_)
                            case hr => exact row_two _ _ _ _ _ rfl rfl
                            case h63 => unfold maxLen; omega
                            case hb => omega
                            case hbase => have := Ho5.out.size; simp; omega
                            intro v' w6 hown' hgrow
                            have hown2 : w6.ownsRow W.heap.size 41 2 v' (out.length + 1) (propCells (out ++ [(key, val)])) := by
                              rw [← str_props]
                              have := hown'
                              rw [HK.out, HV.out] at this
                              exact this
                            have hba := (Below.refl wc.heap.size wc).alloc (Nat.le_refl _) (Obj.cells #[.string K, .string V] 41)
                            have hr6 := (Hrd5.out.below hba).other hgrow (fun e => by have := (Hown5.out.lt N e).1; omega)
                            have ho6 := (Ho5.out.then hba).grown hgrow (fun k hk => (Hown5.out.lt k hk).1)
                            obtain ⟨va, vc, rfl, -⟩ := row_of_own hown2 (propCells_one _)
                            have Hown6 := Lib.hid hown2; have Hr6 := Lib.hid hr6; have Ho6 := Lib.hid ho6
                            have HN6 := fun q => HNx.out _ j _ _ (hr6.drew q) (by omega)
                            clear hown' hgrow hown2 hba hr6 ho6 Hown5 Ho5 Hrd5 x0 x1 x2 x3 f1 f2 f3 hN5
                            obtain ⟨x0, x1, x2, x3, ⟨f1, f2, f3⟩, hN6⟩ := Hr6.out.facts
                            cases h125 : standsB s j 125 with
                            | true =>
                              as_aux_lemma =>
                              have hlt := stands_lt h125
                              have hlti : (j : Int) < s.length := by omega
                              have HQ : ∀ q, Hid (Calls Tryz.prog 35 #[.pointer (some ⟨N, 0, none⟩)] (w6.drewN q) fun e w' => e = .returned (.int .u8 125) ∧ ∃ m, w' = w6.drewN m) := fun q =>
                                Lib.hid (Calls.quiet_of ((HN6 q).out.mono fun e w' h => ⟨by rw [h.1, next_stands h125]; rfl, h.2⟩))
                              have Hset := fun q => Lib.hid ((Hr6.out.drew q).setA ((j + 1 : Nat) : Int))
                              have Hoset := fun q => Lib.hid ((Ho6.out.drewN q).set (o := 1) (.int .i64 ((j + 1 : Nat) : Int)))
                              have Hwset := fun q => Lib.hid (own_only Hown6.out (((Only.refl N w6).drewN q).set (o := 1) (.int .i64 ((j + 1 : Nat) : Int))) hNW)
                              have Hst : Hid ((R = .ok (out ++ [(key, val)]) (j + 1) ∧ e1 = 0 ∧ q1 = p0) ∨ ∃ q : Nat, q1 = q ∧ e1 ≠ 0 ∧ R = .bad q e1) := by
                                rcases Hst.out with ⟨h1, h2, h3⟩ | h
                                · rw [if_pos h125] at h3
                                  exact .inl ⟨h3, h1, h2⟩
                                · exact .inr h
                              clear h125 HN6
                              go_wp2_with fail
                              go_quiet (first | (go_at_call 35; exact (HQ _).out))
                              go_wp2_with fail
                              go_ret
                              exact rprops_end Hst.out (by simp) (Hwset _).out (Hset _).out (Hoset _).out hlt ⟨_, _, _, rfl⟩
                            | false =>
                              as_aux_lemma =>
                              have HQ : ∀ q, Hid (Calls Tryz.prog 35 #[.pointer (some ⟨N, 0, none⟩)] (w6.drewN q) fun e w' => e = .returned (.int .u8 (nextB s j).toNat) ∧ ∃ m, w' = w6.drewN m) := fun q =>
                                Lib.hid (Calls.quiet_of ((HN6 q).out.mono fun e w' h => ⟨h.1, h.2⟩))
                              have hne : (((nextB s j).toNat : Int) == 125) = false := next_not h125 (by decide) rfl
                              generalize nextB s j = c3 at HQ hne
                              rcases Hst.out with ⟨h1, h2, h3⟩ | ⟨q', h1, h2, h3⟩
                              · rw [if_neg (by rw [h125]; decide)] at h3
                                subst h1; subst h2
                                cases h44 : standsB s j 44 with
                                | true =>
                                  have hlt := stands_lt h44
                                  rw [if_neg (by rw [h44]; decide)] at h3
                                  have HT := fun q => HTy.out _ j 44 44 rfl (Hr6.out.drew q) h44
                                  have H3 := Lib.hid h3
                                  clear h3 h44 h125 HN6 Hst
                                  go_wp2_with fail
                                  go_quiet (first | (go_at_call 35; exact (HQ _).out))
                                  go_wp2_with fail
                                  refine (HT _).out.mono ?_
                                  rintro e w7 ⟨rfl, ho, hr⟩
                                  have Ho7 := Lib.hid ((Ho6.out.drewN _).trans ho); have Hr7 := Lib.hid hr; have Hown7 := Lib.hid (own_only Hown6.out (((Only.refl N w6).drewN _).trans ho) hNW)
                                  clear ho hr HT HQ x0 x1 x2 x3 f1 f2 f3
                                  go_wp2_with fail
                                  go_roundg f
                                  case measure => omega
                                  case rel => exact .inl ⟨j, out ++ [(key, val)], key, hlt, by omega, H3.out.symm, lastOf_snoc out (key, val), by simp; omega, by rw [List.length_append]; exact Hown7.out, Hr7.out, Ho7.out⟩
                                | false =>
                                  rw [if_pos h44] at h3
                                  have HT := fun q => HTf.out _ j 44 44 rfl (Hr6.out.drew q) (by omega) h44
                                  have H3 := Lib.hid h3
                                  clear h3 h44 h125 HN6 Hst
                                  go_wp2_with fail
                                  go_quiet (first | (go_at_call 35; exact (HQ _).out))
                                  go_wp2_with fail
                                  refine (HT _).out.mono ?_
                                  rintro e w7 ⟨rfl, ho, hr⟩
                                  have Ho7 := Lib.hid ((Ho6.out.drewN _).trans ho); have Hr7 := Lib.hid hr
                                  clear ho hr HT HQ x0 x1 x2 x3 f1 f2 f3
                                  go_wp2_with fail
                                  go_roundg f
                                  case measure => omega
                                  case rel => exact .inr ⟨j, j, 11, by decide, H3.out, by omega, Hr7.out, Ho7.out⟩
                              · subst h1
                                have HT := fun q => HTo.out _ j 44 44 e1 q' rfl (Hr6.out.drew q) h2 (by omega)
                                have H3 := Lib.hid h3; have H2 := Lib.hid h2
                                clear h3 h2 h125 HN6 Hst
                                go_wp2_with fail
                                go_quiet (first | (go_at_call 35; exact (HQ _).out))
                                go_wp2_with fail
                                refine (HT _).out.mono ?_
                                rintro e w7 ⟨rfl, ho, a7, ha7, hr⟩
                                have Ho7 := Lib.hid ((Ho6.out.drewN _).trans ho); have Hr7 := Lib.hid hr
                                clear ho hr HT HQ x0 x1 x2 x3 f1 f2 f3
                                go_wp2_with fail
                                go_roundg f
                                case measure => omega
                                case rel => exact .inr ⟨a7, q', e1, H2.out, H3.out, ha7, Hr7.out, Ho7.out⟩
    · obtain ⟨x0, x1, x2, x3, -, hN⟩ := hrd.facts
      have her0 : (er == 0) = false := by simpa using her
      have Hrd := Lib.hid hrd; have Ho := Lib.hid honly; have Her := Lib.hid her; have HRb := Lib.hid hRb
      clear hrd honly her hRb Ho1 Hr1 HRR
      go_wp2_with fail
      go_ret
      rw [HRb.out]
      exact ⟨_, _, _, rfl, Her.out, ⟨a', ha', Hrd.out⟩, Ho.out⟩

end Go.Proofs.YtmhgbocejjnoaaaGreatDoor
/- Plain laws: an escape, read digit by digit. No walk. -/
namespace Go.Redl
open Go.RowKit
set_option linter.unusedVariables false

/-- A small hexadecimal digit; its value. -/
def lowhexB (c : UInt8) : Bool := decide (48 ≤ c.toNat ∧ c.toNat ≤ 57) || decide (97 ≤ c.toNat ∧ c.toNat ≤ 102)
def hexVal (c : UInt8) : Nat := if c.toNat ≤ 57 then c.toNat - 48 else c.toNat - 87
theorem dig_low (n : Nat) (h : n < 16) : lowhexB (dig n) = true := by
  have : ∀ m : Fin 16, lowhexB (dig m.1) = true := by decide +kernel
  exact this ⟨n, h⟩
theorem hexF_low : ∀ (f n : Nat), ∀ c ∈ hexF f n, lowhexB c = true
  | 0, n, c, h => by simp [hexF] at h
  | f + 1, n, c, h => by
    unfold hexF at h
    split at h
    · rename_i hn
      simp at h; subst h; exact dig_low n hn
    · rcases List.mem_append.1 h with h | h
      · exact hexF_low f (n / 16) c h
      · simp at h; subst h; exact dig_low _ (Nat.mod_lt _ (by decide))
theorem hexF_short : ∀ (f m n : Nat), n < 16 ^ m → 1 ≤ m → (hexF f n).length ≤ m
  | 0, m, n, h, hm => by simp [hexF]
  | f + 1, m, n, h, hm => by
    unfold hexF
    split
    · simp; omega
    · rename_i hn
      have hm2 : 1 ≤ m - 1 := by
        rcases Nat.lt_or_ge 1 m with h1 | h1
        · omega
        · have : m = 1 := by omega
          subst this; simp at h; omega
      have e : m = (m - 1) + 1 := by omega
      rw [e, Nat.pow_succ] at h
      have := hexF_short f (m - 1) (n / 16) (Nat.div_lt_of_lt_mul (by rw [Nat.mul_comm]; exact h)) hm2
      simp; omega
theorem hexL_six (n : Nat) (h : n ≤ 1114111) : (hexL n).length ≤ 6 := hexF_short 20 6 n (Nat.lt_of_le_of_lt h (by decide)) (by decide)
theorem lowhex_digv {c : UInt8} (h : lowhexB c = true) : digv c = some (hexVal c) ∧ hexVal c < 16 ∧ c ≠ 59 := by
  have : ∀ m : Fin 256, lowhexB (UInt8.ofNat m.1) = true → digv (UInt8.ofNat m.1) = some (hexVal (UInt8.ofNat m.1)) ∧ hexVal (UInt8.ofNat m.1) < 16 ∧ UInt8.ofNat m.1 ≠ 59 := by decide +kernel
  have := this ⟨c.toNat, c.toNat_lt⟩
  simp only [UInt8.ofNat_toNat] at this
  exact this h

/-- The first k bytes are digits; what they say. -/
structure HexTo (t : List UInt8) (k acc : Nat) : Prop where
  le : k ≤ t.length
  low : ∀ c ∈ t.take k, lowhexB c = true
  val : parseP (t.take k) 0 = some acc
  lt : acc < 16 ^ k
  six : k ≤ 6
theorem HexTo.zero (t : List UInt8) : HexTo t 0 0 := ⟨by omega, by simp, by simp [parseP], by simp, by omega⟩
theorem HexTo.small {t : List UInt8} {k acc : Nat} (h : HexTo t k acc) : acc ≤ 16777215 := by
  have h1 := h.lt
  have h2 : 16 ^ k ≤ 16 ^ 6 := Nat.pow_le_pow_right (by decide) h.six
  have h3 : (16 : Nat) ^ 6 = 16777216 := by decide
  omega
theorem HexTo.less {t : List UInt8} {k acc : Nat} (h : HexTo t k acc) (hk : k ≤ 5) : acc ≤ 1048575 := by
  have h1 := h.lt
  have h2 : 16 ^ k ≤ 16 ^ 5 := Nat.pow_le_pow_right (by decide) hk
  have h3 : (16 : Nat) ^ 5 = 1048576 := by decide
  omega
theorem HexTo.step {t : List UInt8} {k acc : Nat} (h : HexTo t k acc) (hk : k < t.length) (h5 : k ≤ 5) (hl : lowhexB t[k] = true) : HexTo t (k + 1) (acc * 16 + hexVal t[k]) := by
  obtain ⟨h1, h2, h3⟩ := lowhex_digv hl
  have hs := h.small
  refine ⟨by omega, ?_, ?_, ?_, by omega⟩
  · intro c hc
    rw [List.take_succ_eq_append_getElem hk] at hc
    rcases List.mem_append.1 hc with hc | hc
    · exact h.low c hc
    · simp at hc; subst hc; exact hl
  · rw [List.take_succ_eq_append_getElem hk]
    exact parseP_snoc _ _ _ _ _ h.val h1 h2 (by omega)
  · have := h.lt
    rw [Nat.pow_succ]; omega
/-- Where an escape's text stands. -/
theorem esc_form {t : List UInt8} {n : Nat} (h : escN (92 :: t) = some n) : validB n = true ∧ plainB n = false ∧ ∃ rest, t = hexL n ++ 59 :: rest := by
  obtain ⟨h1, h2, r, h3⟩ := escN_some.1 h
  refine ⟨h1, h2, r, ?_⟩
  simp only [escL, List.cons_append, List.append_assoc, List.cons.injEq, true_and, List.nil_append] at h3
  exact h3.symm
theorem hexTo_not59 {t : List UInt8} {k acc : Nat} (h : HexTo t k acc) {j : Nat} (hj : j < k) : t[j]? ≠ some 59 := by
  intro he
  have hlt : j < t.length := by have := h.le; omega
  rw [List.getElem?_eq_getElem hlt] at he
  have hm : t[j] ∈ t.take k := List.mem_take_iff_getElem.2 ⟨j, by omega, rfl⟩
  have := (lowhex_digv (h.low _ hm)).2.2
  exact this (Option.some.inj he)
theorem esc_bad {t : List UInt8} {k acc : Nat} (h : HexTo t k acc) (hk : k < t.length) (h59 : t[k] ≠ 59) (hb : lowhexB t[k] = false ∨ k = 6) : escN (92 :: t) = none := by
  cases he : escN (92 :: t) with
  | none => rfl
  | some n =>
    exfalso
    obtain ⟨h1, h2, rest, h3⟩ := esc_form he
    have hv := valid_bound h1
    have h6 := hexL_six n (by omega)
    have hm : t[(hexL n).length]? = some 59 := by rw [h3, List.getElem?_append_right (Nat.le_refl _)]; simp
    rcases Nat.lt_trichotomy k (hexL n).length with hlt | heq | hgt
    · rcases hb with hb | hb
      · have h4 : t[k]? = (hexL n)[k]? := by rw [h3, List.getElem?_append_left hlt]
        rw [List.getElem?_eq_getElem hk, List.getElem?_eq_getElem hlt] at h4
        have h5 := hexF_low 20 n _ (List.getElem_mem hlt)
        have h5 : lowhexB (hexL n)[k] = true := h5
        rw [← Option.some.inj h4] at h5
        rw [hb] at h5; cases h5
      · omega
    · subst heq
      rw [List.getElem?_eq_getElem hk] at hm
      exact h59 (Option.some.inj hm)
    · exact hexTo_not59 h hgt hm
theorem esc_end {t : List UInt8} {acc : Nat} (h : HexTo t t.length acc) : escN (92 :: t) = none := by
  cases he : escN (92 :: t) with
  | none => rfl
  | some n =>
    exfalso
    obtain ⟨h1, h2, rest, h3⟩ := esc_form he
    have hm : t[(hexL n).length]? = some 59 := by rw [h3, List.getElem?_append_right (Nat.le_refl _)]; simp
    have hlt : (hexL n).length < t.length := by
      have := congrArg List.length h3
      simp at this; omega
    exact hexTo_not59 h hlt hm
theorem esc_at {t : List UInt8} {k acc : Nat} (h : HexTo t k acc) (hk : k < t.length) (h59 : t[k] = 59) {n : Nat} (he : escN (92 :: t) = some n) : n = acc ∧ k ≠ 0 ∧ validB acc = true ∧ plainB acc = false ∧ hexL acc = t.take k := by
  have hs : t = t.take k ++ 59 :: t.drop (k + 1) := by
    conv => lhs; rw [← List.take_append_drop k t, List.drop_eq_getElem_cons hk, h59]
  have hn : ∀ c ∈ t.take k, c ≠ 59 := fun c hc => (lowhex_digv (h.low c hc)).2.2
  rw [hs] at he
  obtain ⟨a, b, c, d, e⟩ := escN_at hn he
  have hd : some n = some acc := d.symm.trans h.val
  cases hd
  refine ⟨rfl, ?_, a, b, c⟩
  rintro rfl
  exact e (by simp)
theorem esc_yes {t : List UInt8} {k acc : Nat} (h : HexTo t k acc) (hk : k < t.length) (h59 : t[k] = 59) (hv : validB acc = true) (hp : plainB acc = false) (hx : hexL acc = t.take k) : escN (92 :: t) = some acc := by
  have hs : t = t.take k ++ 59 :: t.drop (k + 1) := by
    conv => lhs; rw [← List.take_append_drop k t, List.drop_eq_getElem_cons hk, h59]
  rw [hs]
  exact escN_yes hv hp (by rw [escL, hx])
theorem esc_no {t : List UInt8} {k acc : Nat} (h : HexTo t k acc) (hk : k < t.length) (h59 : t[k] = 59) (hb : k = 0 ∨ validB acc = false ∨ plainB acc = true ∨ hexL acc ≠ t.take k) : escN (92 :: t) = none := by
  cases he : escN (92 :: t) with
  | none => rfl
  | some n =>
    exfalso
    obtain ⟨rfl, h1, h2, h3, h4⟩ := esc_at h hk h59 he
    rcases hb with hb | hb | hb | hb
    · exact h1 hb
    · rw [h2] at hb; cases hb
    · rw [h3] at hb; cases hb
    · exact hb h4
/-- What the reference's escape answers. -/
def escR (t : List UInt8) : Int × Int × Bool := match escN (92 :: t) with | some n => ((n : Int), ((hexL n).length : Int) + 1, true) | none => (0, 0, false)
theorem escR_none {t : List UInt8} (h : escN (92 :: t) = none) : escR t = (0, 0, false) := by unfold escR; rw [h]
theorem escR_some {t : List UInt8} {n : Nat} (h : escN (92 :: t) = some n) : escR t = ((n : Int), ((hexL n).length : Int) + 1, true) := by unfold escR; rw [h]

end Go.Redl
