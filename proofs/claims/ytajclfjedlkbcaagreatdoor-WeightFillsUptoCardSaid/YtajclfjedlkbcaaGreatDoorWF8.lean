/- Parts of the proof, one behind the other: RMH, RMI, RSB, RSE, RHP, RKD. -/
import Derived.Test.YtajclfjedlkbcaaGreatDoorWF5
import Derived.Test.YtajclfjedlkbcaaGreatDoorWF6
import Derived.Test.YtajclfjedlkbcaaGreatDoorWF7
import Derived.Test.YtajclfjedlkbcaaGreatDoorWF4
import Derived.Test.YtajclfjedlkbcaaGreatDoorWF2
import Derived.Deep.LoopGhost
import Derived.Deep.DeepCutAuto
import Derived.Deep.RegionLaw
/- Walk: table.formed. -/
namespace Go.Proofs.YtajclfjedlkbcaaGreatDoor
open Go.RowKit Go.Redl
set_option linter.unusedVariables false
set_option linter.unusedSimpArgs false

theorem typesP_names (l : List PairD) : pairNames l = (l.map (·.1)).map strV := by simp [pairNames]
theorem row_strs {w : World} {N : Nat} {l : List (List UInt8)} {T : TypeId} (h : At w N (l.map strV) T) (hn : l.length ≤ 100000000) : RowA w (N + 1) 1 (some ⟨N, 0, none⟩) l.length l.length (l.map strV) :=
  ⟨by simp, Nat.le_refl _, by unfold maxLen; omega, (fun u hu => by obtain ⟨t, -, rfl⟩ := List.mem_map.1 hu; rfl), (fun e => by cases e), fun _ => ⟨N, 0, rfl, by omega, fun j u hj => by rw [Nat.zero_add]; exact h.cell j hj⟩⟩
theorem rising_at (l : List (List UInt8)) (n N : Nat) (w : World) (hl : l.length = n) (h : At w N (l.map strV) 9) (hn : n ≤ 100000000) (hb : ∀ t ∈ l, t.length ≤ 1000000000) :
    Calls Tryz.prog 48 #[.slice (some ⟨N, 0, none⟩) n n] w fun e w' => e = .returned (.bool (riseB l)) ∧ Below w.heap.size w w' := by
  subst hl
  exact rising_c l _ l.length w ((row_strs h hn).keep ((Below.refl _ _)) h.lt) hn hb
theorem formed_ent : ∀ args w, (callFunc 53 args).run Tryz.prog w = .ok (.enter 53 args) w := by intro args w; kernel_rfl
set_option maxRecDepth 100000 in
set_option maxHeartbeats 4000000 in
theorem formed_c (r : RuleD) (a : Option Addr) (c : Nat) (W : World) (hr : RowA W W.heap.size 3 a r.kids.length c (pairCells r.kids)) (hw : r.wt ≤ 100000000) :
    Calls Tryz.prog 53 #[.agg #[strV r.type, .int .i64 r.text.1, strV r.text.2, .int .i64 r.other.1, strV r.other.2, .slice a r.kids.length c, .int .i64 r.fill, strV r.fillT]] W fun e w' => e = .returned (.bool (formedB r)) ∧ Below W.heap.size W w' := by
  have hkl : r.kids.length ≤ 100000000 := by have := kids_wt r; omega
  have hkw : ∀ p ∈ r.kids, p.1.length ≤ 1000000000 ∧ p.2.2.length ≤ 1000000000 := fun p hp => by have := pairsWt_mem hp; unfold RuleD.wt at hw; omega
  have htl : r.text.2.length ≤ 1000000000 := by unfold RuleD.wt at hw; omega
  have hol : r.other.2.length ≤ 1000000000 := by unfold RuleD.wt at hw; omega
  have hfl : r.fillT.length ≤ 1000000000 := by unfold RuleD.wt at hw; omega
  obtain ⟨R, hR⟩ : ∃ R, R = formedB r := ⟨_, rfl⟩
  have HR := Lib.hid (show ((r.kids.drop 0).all (fun p => actB true p.2) && (fillB r && (actB false r.text && (actB true r.other && riseB (r.kids.map (·.1)))))) = R from hR.symm)
  rw [← hR]
  obtain ⟨ty, ⟨td, tt⟩, ⟨od, ot⟩, kids, fill, ft⟩ := r
  simp only at hkl hkw htl hol hfl hr HR ⊢
  obtain ⟨w0, hw0⟩ : ∃ w0, w0 = W.alloc (Obj.cells #[strV ty, .int .i64 td, strV tt, .int .i64 od, strV ot, .slice a kids.length c, .int .i64 fill, strV ft] 27) := ⟨_, rfl⟩
  have hb0 : Below W.heap.size W w0 := by rw [hw0]; exact one_below _ _
  have hA : At w0 W.heap.size [strV ty, .int .i64 td, strV tt, .int .i64 od, strV ot, .slice a kids.length c, .int .i64 fill, strV ft] 27 := by rw [hw0]; exact At.fresh W _ _
  obtain ⟨⟨x0, x1, x2, x3, x4, x5, x6, x7⟩, -, xl⟩ := hA.f8
  have Hw0 := Lib.hid hw0; have Hb0 := Lib.hid hb0; have HA := Lib.hid hA
  have Hr := Lib.hid (fun (w' : World) (hb : Below W.heap.size W w') => hr.keep hb hb.size)
  have Hkw := Lib.hid hkw; have Htl := Lib.hid htl; have Hol := Lib.hid hol; have Hfl := Lib.hid hfl
  clear hw0 hb0 hA hr hw hR hkw htl hol hfl
  go_enter Tryz.func53, Tryz.ntmps53
  go_upto_region 1 with fail
  rw [← Hw0.out]
  clear Hw0
  go_wp2_with fail
  go_loopg [9] kids.length (fun g i wr => ∃ k : Nat, i = .int .i64 k ∧ k + g = kids.length ∧ Hid (((kids.drop k).all (fun p => actB true p.2) && (fillB ⟨ty, (td, tt), (od, ot), kids, fill, ft⟩ && (actB false (td, tt) && (actB true (od, ot) && riseB (kids.map (·.1)))))) = R) ∧ Hid (Below w0.heap.size w0 wr))
  case atStart => exact ⟨0, rfl, by omega, HR, (show Below _ _ _ from Below.refl _ _)⟩
  case round =>
    obtain ⟨k, rfl, hg, hst, hbr⟩ := hrel
    have Hbr := Lib.hid (Hb0.out.trans (hbr.out.mono Hb0.out.size))
    clear x0 x1 x2 x3 x4 x5 x6 x7
    by_cases hlt : k < kids.length
    · have hlti : (k : Int) < kids.length := by omega
      obtain ⟨b, off, rfl, hlb, p0, p1, p2⟩ := (Hr.out wr Hbr.out).pair_at k hlt
      have Hst := Lib.hid (show (actB true kids[k].2 && ((kids.drop (k + 1)).all (fun p => actB true p.2) && (fillB ⟨ty, (td, tt), (od, ot), kids, fill, ft⟩ && (actB false (td, tt) && (actB true (od, ot) && riseB (kids.map (·.1))))))) = R by
        have h := hst.out
        rw [List.drop_eq_getElem_cons hlt, List.all_cons, Bool.and_assoc] at h
        exact h)
      have Hq := Lib.hid (Hkw.out _ (List.getElem_mem hlt)).2
      generalize kids[k] = q at p0 p1 p2 Hst Hq
      obtain ⟨q0, q1, q2⟩ := q
      simp only at p0 p1 p2
      have HC := Lib.hid (fun (w1 : World) => acts_c q1 q2 true w1 Hq.out)
      clear hlb hst
      cases hact : actB true (q1, q2) with
      | false =>
        have Hz := Lib.hid (show false = R by have h := Hst.out; simp only at h; rw [hact] at h; exact h)
        rw [hact] at HC
        clear Hst hact
        go_wp2_with fail
        refine (HC.out _).mono ?_
        rintro e w2 ⟨rfl, hbel⟩
        have Hb2 := Lib.hid (Hbr.out.trans (((one_below wr (Obj.cells #[strV q0, .int .i64 q1, strV q2] 70)).trans (hbel.mono (one_below wr _).size)).mono Hbr.out.size))
        clear hbel HC p0 p1 p2
        go_wp2_with fail
        go_ret
        exact ⟨ret_bool Hz.out, Hb2.out⟩
      | true =>
        have HN := Lib.hid (show ((kids.drop (k + 1)).all (fun p => actB true p.2) && (fillB ⟨ty, (td, tt), (od, ot), kids, fill, ft⟩ && (actB false (td, tt) && (actB true (od, ot) && riseB (kids.map (·.1)))))) = R by have h := Hst.out; simp only at h; rw [hact] at h; simpa using h)
        rw [hact] at HC
        clear Hst hact
        go_wp2_with fail
        refine (HC.out _).mono ?_
        rintro e w2 ⟨rfl, hbel⟩
        have Hb2 := Lib.hid (show Below w0.heap.size w0 w2 from hbr.out.trans (((one_below wr (Obj.cells #[strV q0, .int .i64 q1, strV q2] 70)).trans (hbel.mono (one_below wr _).size)).mono hbr.out.size))
        clear hbel HC p0 p1 p2
        go_wp2_with fail
        go_roundg (kids.length - (k + 1))
        case measure => omega
        case rel => exact ⟨k + 1, by go_num, by omega, HN, Hb2⟩
    · obtain rfl : k = kids.length := by omega
      have Hfin := Lib.hid (show (fillB ⟨ty, (td, tt), (od, ot), kids, fill, ft⟩ && (actB false (td, tt) && (actB true (od, ot) && riseB (kids.map (·.1))))) = R by have h := hst.out; rw [List.drop_length] at h; simpa using h)
      have hnl : ¬ (kids.length : Int) < kids.length := by omega
      obtain ⟨F, hF⟩ : ∃ F, F = fillB ⟨ty, (td, tt), (od, ot), kids, fill, ft⟩ := ⟨_, rfl⟩
      rw [← hF] at Hfin
      have HF := Lib.hid (show F = ((decide (fill = 0 ∨ fill = 1) && decide (ft = [])) || (decide (fill = 2) && nameB ft)) from hF)
      obtain ⟨⟨x0, x1, x2, x3, x4, x5, x6, x7⟩, -, xl⟩ := (HA.out.kept hbr.out).f8
      have HN := Lib.hid (name_c ft wr Hfl.out)
      have heq := str_eqb ft []
      clear hst hF
      go_upto_region 7 with fail
      go_cut [5] (fun v wx => v = .bool F ∧ Hid (Below wr.heap.size wr wx))
      case first =>
        by_cases h0 : fill = 0
        · subst h0
          cases ft with
          | nil =>
            have Hz := Lib.hid (show true = F from by rw [HF.out]; rfl)
            go_wp2_with fail
            go_meet
            case rel => exact ⟨by rw [← Hz.out], (show Below _ _ _ from Below.refl _ _)⟩
          | cons f0 fs =>
            have Hz := Lib.hid (show false = F from by rw [HF.out]; rfl)
            go_wp2_with fail
            go_meet
            case rel => exact ⟨by rw [← Hz.out], (show Below _ _ _ from Below.refl _ _)⟩
        · have h0b : (fill == 0) = false := beq_eq_false_iff_ne.2 h0
          by_cases h1 : fill = 1
          · subst h1
            cases ft with
            | nil =>
              have Hz := Lib.hid (show true = F from by rw [HF.out]; rfl)
              go_wp2_with fail
              go_meet
              case rel => exact ⟨by rw [← Hz.out], (show Below _ _ _ from Below.refl _ _)⟩
            | cons f0 fs =>
              have Hz := Lib.hid (show false = F from by rw [HF.out]; rfl)
              go_wp2_with fail
              go_meet
              case rel => exact ⟨by rw [← Hz.out], (show Below _ _ _ from Below.refl _ _)⟩
          · have h1b : (fill == 1) = false := beq_eq_false_iff_ne.2 h1
            by_cases h2 : fill = 2
            · subst h2
              have Hz := Lib.hid (show nameB ft = F from by rw [HF.out]; simp)
              go_wp2_with fail
              refine HN.out.mono ?_
              rintro e w2 ⟨rfl, hbel⟩
              have Hb2 := Lib.hid hbel
              clear hbel HN
              go_wp2_with fail
              go_meet
              case rel => exact ⟨by rw [Hz.out], Hb2⟩
            · have h2b : (fill == 2) = false := beq_eq_false_iff_ne.2 h2
              have Hz := Lib.hid (show false = F from by rw [HF.out]; simp [h0, h1, h2])
              go_wp2_with fail
              go_meet
              case rel => exact ⟨by rw [← Hz.out], (show Below _ _ _ from Below.refl _ _)⟩
      case rest =>
        obtain ⟨rfl, hbx⟩ := hcut
        have Hbx := Lib.hid (Hbr.out.trans (hbx.out.mono Hbr.out.size))
        have HA2 := Lib.hid ((HA.out.kept hbr.out).kept hbx.out)
        have HT1 := Lib.hid (fun (w1 : World) => acts_c td tt false w1 Htl.out)
        have HT2 := Lib.hid (fun (w1 : World) => acts_c od ot true w1 Hol.out)
        clear x0 x1 x2 x3 x4 x5 x6 x7 HN HF hbr hbx
        obtain ⟨⟨x0, x1, x2, x3, x4, x5, x6, x7⟩, -, xl⟩ := HA2.out.f8
        cases F with
        | false =>
          have Hz := Lib.hid (show false = R from Hfin.out)
          go_wp2_with fail
          go_ret
          exact ⟨ret_bool Hz.out, Hbx.out⟩
        | true =>
          cases ht : actB false (td, tt) with
          | false =>
            have Hz := Lib.hid (show false = R by have h := Hfin.out; rw [ht] at h; exact h)
            rw [ht] at HT1
            clear Hfin ht
            go_wp2_with fail
            refine (HT1.out _).mono ?_
            rintro e w2 ⟨rfl, hbel⟩
            have Hb2 := Lib.hid (Hbx.out.trans (hbel.mono Hbx.out.size))
            clear x0 x1 x2 x3 x4 x5 x6 x7 hbel HT1
            go_wp2_with fail
            go_ret
            exact ⟨ret_bool Hz.out, Hb2.out⟩
          | true =>
            have Hfin2 := Lib.hid (show (actB true (od, ot) && riseB (kids.map (·.1))) = R by have h := Hfin.out; rw [ht] at h; simpa using h)
            rw [ht] at HT1
            clear Hfin ht
            go_wp2_with fail
            refine (HT1.out _).mono ?_
            rintro e w2 ⟨rfl, hbel⟩
            have Hb2 := Lib.hid (Hbx.out.trans (hbel.mono Hbx.out.size))
            have HA3 := Lib.hid (HA2.out.kept hbel)
            clear x0 x1 x2 x3 x4 x5 x6 x7 hbel HT1 HA2
            obtain ⟨⟨x0, x1, x2, x3, x4, x5, x6, x7⟩, -, xl⟩ := HA3.out.f8
            cases ho : actB true (od, ot) with
            | false =>
              have Hz := Lib.hid (show false = R by have h := Hfin2.out; rw [ho] at h; exact h)
              rw [ho] at HT2
              clear Hfin2 ho
              go_wp2_with fail
              refine (HT2.out _).mono ?_
              rintro e w3 ⟨rfl, hbel⟩
              have Hb3 := Lib.hid (Hb2.out.trans (hbel.mono Hb2.out.size))
              clear x0 x1 x2 x3 x4 x5 x6 x7 hbel HT2
              go_wp2_with fail
              go_ret
              exact ⟨ret_bool Hz.out, Hb3.out⟩
            | true =>
              have Hz := Lib.hid (show riseB (kids.map (·.1)) = R by have h := Hfin2.out; rw [ho] at h; simpa using h)
              rw [ho] at HT2
              clear Hfin2 ho
              go_wp2_with fail
              refine (HT2.out _).mono ?_
              rintro e w3 ⟨rfl, hbel⟩
              have Hb3 := Lib.hid (Hb2.out.trans (hbel.mono Hb2.out.size))
              have HA4 := Lib.hid (HA3.out.kept hbel)
              have HP := Lib.hid (typesP_c kids a c w3 (Hr.out w3 Hb3.out) hkl)
              clear x0 x1 x2 x3 x4 x5 x6 x7 hbel HT2 HA3
              obtain ⟨⟨x0, x1, x2, x3, x4, x5, x6, x7⟩, -, xl⟩ := HA4.out.f8
              go_wp2_with fail
              refine HP.out.mono ?_
              rintro e w4 ⟨rfl, hat, hbel⟩
              have Hb4 := Lib.hid (Hb3.out.trans (hbel.mono Hb3.out.size))
              rw [typesP_names] at hat
              have HQ := Lib.hid (rising_at (kids.map (·.1)) kids.length _ w4 (by simp) hat hkl (fun t ht => by obtain ⟨p, hp, rfl⟩ := List.mem_map.1 ht; exact (Hkw.out p hp).1))
              clear x0 x1 x2 x3 x4 x5 x6 x7 hbel HP hat
              go_wp2_with fail
              refine HQ.out.mono ?_
              rintro e w5 ⟨rfl, hbel⟩
              have Hb5 := Lib.hid (Hb4.out.trans (hbel.mono Hb4.out.size))
              clear hbel HQ
              go_wp2_with fail
              go_ret
              exact ⟨ret_bool Hz.out, Hb5.out⟩

end Go.Proofs.YtajclfjedlkbcaaGreatDoor
/- Walk: table.settled. -/
namespace Go.Proofs.YtajclfjedlkbcaaGreatDoor
open Go.RowKit Go.Redl
set_option linter.unusedVariables false
set_option linter.unusedSimpArgs false

theorem typed_x (r : RuleD) (a : Option Addr) (c : Nat) (k : List UInt8) (W : World) (hr : RowA W W.heap.size 3 a r.kids.length c (pairCells r.kids)) (hn : r.kids.length ≤ 100000000) :
    Calls Tryz.prog 101 #[.agg #[strV r.type, .int .i64 r.text.1, strV r.text.2, .int .i64 r.other.1, strV r.other.2, .slice a r.kids.length c, .int .i64 r.fill, strV r.fillT], strV k] W (ActP W (actIn r k)) := typed_c r a c k W hr hn
/-- What is wrapped by a text's rule. -/
def badText (s : SchemaD) (r : RuleD) : Bool := decide (r.text.1 = 4) && (decide ((actIn r r.text.2).1 ≠ 1) || decide ((ruleOf s r.text.2).text.1 ≠ 1))
def lastFill (r : RuleD) : Bool := if r.fill = 1 then decide (r.text.1 = 1) else if r.fill = 2 then decide ((actIn r r.fillT).1 = 1) else true
theorem settledL_eq (s : SchemaD) (r : RuleD) (l : List (List UInt8)) : settledL s r l = (!badText s r && (l.all (wrapOk s r) && lastFill r)) := rfl
theorem int_ne1 (x : Int) : (x != 1) = decide (x ≠ 1) := by by_cases h : x = 1 <;> simp [h]
theorem field_do (x : Int) (s : List UInt8) : ∀ w : World, (Instr.field 24 (.agg #[.int .i64 x, strV s]) 0).run Tryz.prog w = .ok (.int .i64 x) w := by intro w; kernel_rfl
theorem field_text (x0 : List UInt8) (x1 : Int) (x2 : List UInt8) (x3 : Int) (x4 : List UInt8) (x5 : Option Addr) (n c : Nat) (x6 : Int) (x7 : List UInt8) : ∀ w : World, (Instr.field 27 (.agg #[strV x0, .int .i64 x1, strV x2, .int .i64 x3, strV x4, .slice x5 n c, .int .i64 x6, strV x7]) 1).run Tryz.prog w = .ok (.agg #[.int .i64 x1, strV x2]) w := by intro w; kernel_rfl
theorem settled_ent : ∀ args w, (callFunc 55 args).run Tryz.prog w = .ok (.enter 55 args) w := by intro args w; kernel_rfl
set_option maxRecDepth 100000 in
set_option maxHeartbeats 8000000 in
theorem settled_c (s : SchemaD) (v : Value) (r : RuleD) (a : Option Addr) (c : Nat) (l : List (List UInt8)) (na : Option Addr) (nc : Nat) (W : World) (hw : s.wt ≤ 100000000) (hv : SchemaV W W.heap.size s v) (hr : RowA W W.heap.size 3 a r.kids.length c (pairCells r.kids)) (hk : r.kids.length ≤ 100000000)
    (hl : RowA W W.heap.size 1 na l.length nc (l.map strV)) (hll : l.length ≤ 1000000000) :
    Calls Tryz.prog 55 #[v, .agg #[strV r.type, .int .i64 r.text.1, strV r.text.2, .int .i64 r.other.1, strV r.other.2, .slice a r.kids.length c, .int .i64 r.fill, strV r.fillT], .slice na l.length nc] W fun e w' => e = .returned (.bool (settledL s r l)) ∧ Below W.heap.size W w' := by
  have Hv := Lib.hid (fun (w' : World) (hb : Below W.heap.size W w') => hv.keep hb hb.size)
  have Hr := Lib.hid (fun (w' : World) (hb : Below W.heap.size W w') (k : List UInt8) => typed_x r a c k w' (hr.keep hb hb.size) hk)
  have Hl := Lib.hid (fun (w' : World) (hb : Below W.heap.size W w') => hl.keep hb hb.size)
  obtain ⟨sa, sc, css, ea, ec, o0, o1, o2, o3, o4, o5, rfl, -, -, -, -⟩ := hv.open
  have HO := Lib.hid (fun (w' : World) (hb : Below W.heap.size W w') (k : List UInt8) => ruleOf_c s _ k w' hw (Hv.out w' hb))
  have Hkl := Lib.hid (fun (k : List UInt8) => show (ruleOf s k).kids.length ≤ 100000000 by have := kids_wt (ruleOf s k); have := ruleOf_wt s k; omega)
  obtain ⟨R, hR⟩ : ∃ R, R = settledL s r l := ⟨_, rfl⟩
  have HR := Lib.hid (show (!badText s r && ((l.drop 0).all (wrapOk s r) && lastFill r)) = R from hR.symm)
  rw [← hR]
  obtain ⟨w0, hw0⟩ : ∃ w0, w0 = ((W.alloc (Obj.cells #[.slice sa s.rules.length sc, strV s.els.type, .int .i64 s.els.text.1, strV s.els.text.2, .int .i64 s.els.other.1, strV s.els.other.2, .slice ea s.els.kids.length ec, .int .i64 s.els.fill, strV s.els.fillT, .int .i64 o0, .int .i64 o1, .int .i64 o2, .int .i64 o3, .int .i64 o4, .int .i64 o5, .int .i64 s.cap] 30)).alloc (Obj.cells #[strV r.type, .int .i64 r.text.1, strV r.text.2, .int .i64 r.other.1, strV r.other.2, .slice a r.kids.length c, .int .i64 r.fill, strV r.fillT] 27)).alloc (Obj.cells #[.int .i64 r.text.1, strV r.text.2] 24) := ⟨_, rfl⟩
  have hb0 : Below W.heap.size W w0 := by rw [hw0]; exact three_below _ _ _ _
  have hA : At w0 W.heap.size [.slice sa s.rules.length sc, strV s.els.type, .int .i64 s.els.text.1, strV s.els.text.2, .int .i64 s.els.other.1, strV s.els.other.2, .slice ea s.els.kids.length ec, .int .i64 s.els.fill, strV s.els.fillT, .int .i64 o0, .int .i64 o1, .int .i64 o2, .int .i64 o3, .int .i64 o4, .int .i64 o5, .int .i64 s.cap] 30 := by rw [hw0]; exact ((At.fresh W _ _).alloc _).alloc _
  have hX : At w0 (W.heap.size + 1) [strV r.type, .int .i64 r.text.1, strV r.text.2, .int .i64 r.other.1, strV r.other.2, .slice a r.kids.length c, .int .i64 r.fill, strV r.fillT] 27 := by rw [hw0]; exact (At.second W _ _ _).alloc _
  have hY : At w0 (W.heap.size + 1 + 1) [.int .i64 r.text.1, strV r.text.2] 24 := by rw [hw0]; exact At.third W _ _ _ _
  have hld := fun (w' : World) (h : At w' W.heap.size [.slice sa s.rules.length sc, strV s.els.type, .int .i64 s.els.text.1, strV s.els.text.2, .int .i64 s.els.other.1, strV s.els.other.2, .slice ea s.els.kids.length ec, .int .i64 s.els.fill, strV s.els.fillT, .int .i64 o0, .int .i64 o1, .int .i64 o2, .int .i64 o3, .int .i64 o4, .int .i64 o5, .int .i64 s.cap] 30) => load_at (P := Tryz.prog) h Tryz.underlying30 rfl (by kernel_rfl)
  simp [go_sem] at hld
  have HLD := Lib.hid hld
  have hlr := fun (w' : World) (h : At w' (W.heap.size + 1) [strV r.type, .int .i64 r.text.1, strV r.text.2, .int .i64 r.other.1, strV r.other.2, .slice a r.kids.length c, .int .i64 r.fill, strV r.fillT] 27) => load_at (P := Tryz.prog) h Tryz.underlying27 rfl (by kernel_rfl)
  simp [go_sem] at hlr
  have HLR := Lib.hid hlr
  have Hw0 := Lib.hid hw0; have Hb0 := Lib.hid hb0; have HA := Lib.hid hA; have HX := Lib.hid hX; have HY := Lib.hid hY
  have hld0 := hld w0 hA
  have hlr0 := hlr w0 hX
  have xl := hX.lt
  obtain ⟨⟨y0, y1⟩, -, yl⟩ := hY.f2
  have HT := Lib.hid (Hr.out w0 hb0 r.text.2)
  clear hv hw hr hl hld hlr hw0 hb0 hA hX hY hR
  go_enter Tryz.func55, Tryz.ntmps55
  go_upto_region 2 with fail
  rw [← Hw0.out]
  clear Hw0
  go_cut [32] (fun b wx => b = .bool (badText s r) ∧ Hid (Below w0.heap.size w0 wx))
  case first =>
    by_cases h4 : r.text.1 = 4
    ·
      obtain ⟨A1, hA1⟩ : ∃ A1, A1 = actIn r r.text.2 := ⟨_, rfl⟩
      obtain ⟨D1, hD1⟩ : ∃ D1, D1 = (ruleOf s r.text.2).text.1 := ⟨_, rfl⟩
      have HB := Lib.hid (show badText s r = (decide (A1.1 ≠ 1) || decide (D1 ≠ 1)) by unfold badText; rw [h4, ← hA1, ← hD1]; simp)
      rw [← hA1] at HT
      rw [h4] at y0
      have HD1 := Lib.hid hD1
      obtain ⟨a1, t1⟩ := A1
      simp only at HB
      clear hA1 hD1 h4
      have hfa := field_do
      have hft := field_text
      go_wp2_with fail
      refine HT.out.mono ?_
      rintro e w1 ⟨rfl, hbel⟩
      by_cases ha1 : a1 = 1
      ·
        subst ha1
        have HOx := Lib.hid (HO.out w1 (Hb0.out.trans (hbel.mono Hb0.out.size)) r.text.2)
        have Hb1 := Lib.hid hbel
        have hld1 := HLD.out w1 (HA.out.kept hbel)
        obtain ⟨⟨z0, z1⟩, -, zl⟩ := (HY.out.kept hbel).f2
        clear hbel HT hlr0 y0 y1 hld0
        go_wp2_with fail
        refine HOx.out.mono ?_
        rintro e w2 ⟨ka, kc, rfl, -, hbel⟩
        have Hb2 := Lib.hid (Hb1.out.trans (hbel.mono Hb1.out.size))
        clear hbel HOx z0 z1 hld1
        rw [← HD1.out]
        have hne := int_ne1 D1
        go_wp2_with fail
        go_meet
        case rel => exact ⟨by rw [HB.out]; simp, Hb2⟩
      · have h1b : (a1 == 1) = false := beq_eq_false_iff_ne.2 ha1
        have Hz := Lib.hid (show badText s r = true by rw [HB.out]; simp [ha1])
        have hne1 : (a1 != 1) = true := by simp [ha1]
        have Hb1 := Lib.hid hbel
        clear hbel HT hlr0 y0 y1 hld0
        go_wp2_with fail
        go_meet
        case rel => exact ⟨by rw [Hz.out], Hb1⟩
    ·
      have h4b : (r.text.1 == 4) = false := beq_eq_false_iff_ne.2 h4
      have Hz := Lib.hid (show badText s r = false by unfold badText; simp [h4])
      go_wp2_with fail
      go_meet
      case rel => exact ⟨by rw [Hz.out], (show Below _ _ _ from Below.refl _ _)⟩
  case rest =>
    obtain ⟨wC, rfl⟩ : ∃ wC, wC = wc := ⟨_, rfl⟩
    obtain ⟨rfl, hbx⟩ := hcut
    have HA2 := Lib.hid (HA.out.kept hbx.out)
    have HX2 := Lib.hid (HX.out.kept hbx.out)
    have Hbx := Lib.hid (Hb0.out.trans (hbx.out.mono Hb0.out.size))
    have hxl2 := HX2.out.lt
    obtain ⟨B, hB⟩ : ∃ B, B = badText s r := ⟨_, rfl⟩
    rw [← hB] at HR ⊢
    clear hB y0 y1 yl hld0 hlr0 HT hbx HA HX HY xl
    cases B with
    | true =>
      have Hz := Lib.hid (show false = R from HR.out)
      go_wp2_with fail
      go_ret
      exact ⟨ret_bool Hz.out, Hbx.out⟩
    | false =>
      have HR2 := Lib.hid (show ((l.drop 0).all (wrapOk s r) && lastFill r) = R from HR.out)
      clear HR
      go_wp2_with fail
      go_loopg [35] l.length (fun g i wr => ∃ k : Nat, i = .int .i64 k ∧ k + g = l.length ∧ Hid (((l.drop k).all (wrapOk s r) && lastFill r) = R) ∧ Hid (Below wC.heap.size wC wr))
      case atStart => exact ⟨0, rfl, by omega, HR2, (show Below _ _ _ from Below.refl _ _)⟩
      case round =>
        obtain ⟨k, rfl, hg, hst, hbr⟩ := hrel
        have Hbr := Lib.hid (Hbx.out.trans (hbr.out.mono Hbx.out.size))
        have hHX := HX2.out.kept hbr.out
        have hHA := HA2.out.kept hbr.out
        have hxl3 := hHX.lt
        have hlr0 := HLR.out wr hHX
        have HX3 := Lib.hid hHX; have HA3 := Lib.hid hHA
        clear hHX hHA
        by_cases hlt : k < l.length
        · have hlti : (k : Int) < l.length := by omega
          obtain ⟨b, off, rfl, hlb, hc⟩ := text_at (Hl.out wr Hbr.out) k hlt
          have Hst := Lib.hid (show (wrapOk s r l[k] && ((l.drop (k + 1)).all (wrapOk s r) && lastFill r)) = R by
            have h := hst.out
            rw [List.drop_eq_getElem_cons hlt, List.all_cons, Bool.and_assoc] at h
            exact h)
          generalize l[k] = x at hc Hst
          have HT := Lib.hid (Hr.out wr Hbr.out x)
          obtain ⟨A1, hA1⟩ : ∃ A1, A1 = actIn r x := ⟨_, rfl⟩
          rw [← hA1] at HT
          have HW := Lib.hid (show wrapOk s r x = !(decide (A1.1 = 4) && (decide ((actIn r A1.2).1 ≠ 1) || decide ((actIn (ruleOf s A1.2) x).1 ≠ 1))) by rw [hA1]; rfl)
          obtain ⟨a1, t1⟩ := A1
          simp only at HW
          clear hA1 hst hlb
          have hfa := field_do
          go_wp2_with fail
          refine HT.out.mono ?_
          rintro e w1 ⟨rfl, hbel⟩
          have Hb1 := Lib.hid (hbr.out.trans (hbel.mono hbr.out.size))
          clear hbel HT hc hlr0
          obtain ⟨w2, hw2⟩ : ∃ w2, w2 = w1.alloc (Obj.cells #[.int .i64 a1, strV t1] 24) := ⟨_, rfl⟩
          have hb2 : Below wC.heap.size wC w2 := by rw [hw2]; exact Hb1.out.trans ((one_below w1 _).mono Hb1.out.size)
          have hY : At w2 w1.heap.size [.int .i64 a1, strV t1] 24 := by rw [hw2]; exact At.fresh w1 _ _
          have Hw2 := Lib.hid hw2; have Hb2 := Lib.hid hb2
          have hb2w := Hbx.out.trans (hb2.mono Hbx.out.size)
          have Hb2w := Lib.hid hb2w
          have HY := Lib.hid hY
          obtain ⟨⟨y0, y1⟩, -, yl⟩ := hY.f2
          have hlr0 := HLR.out w2 (HX2.out.kept hb2)
          have HT := Lib.hid (Hr.out w2 hb2w t1)
          have hxl4 := (HX2.out.kept hb2).lt
          clear hw2 hb2 hY hb2w
          go_upto_region 8 with fail
          rw [← Hw2.out]
          clear Hw2
          go_cut [62] (fun b wx => b = .bool (!wrapOk s r x) ∧ Hid (Below w2.heap.size w2 wx))
          case first =>
            by_cases h4 : a1 = 4
            ·
              subst h4
              obtain ⟨A2, hA2⟩ : ∃ A2, A2 = actIn r t1 := ⟨_, rfl⟩
              obtain ⟨Q, hQ⟩ : ∃ Q, Q = ruleOf s t1 := ⟨_, rfl⟩
              rw [← hA2] at HT
              have HB := Lib.hid (show (!wrapOk s r x) = (decide (A2.1 ≠ 1) || decide ((actIn Q x).1 ≠ 1)) by rw [HW.out, ← hA2, ← hQ]; simp)
              have HQ := Lib.hid hQ
              have Hkq := Lib.hid (show Q.kids.length ≤ 100000000 by rw [hQ]; exact Hkl.out t1)
              obtain ⟨a2, t2⟩ := A2
              simp only at HB
              clear hA2 hQ
              have hft := field_text
              go_wp2_with fail
              refine HT.out.mono ?_
              rintro e w3 ⟨rfl, hbel⟩
              by_cases ha2 : a2 = 1
              · subst ha2
                have HOx := Lib.hid (HO.out w3 (Hb2w.out.trans (hbel.mono Hb2w.out.size)) t1)
                rw [← HQ.out] at HOx
                have Hb3 := Lib.hid hbel
                have hld1 := HLD.out w3 (HA2.out.kept (Hb2.out.trans (hbel.mono Hb2.out.size)))
                obtain ⟨⟨z0, z1⟩, -, zl⟩ := (HY.out.kept hbel).f2
                clear hbel HT y0 y1 hlr0
                go_wp2_with fail
                refine HOx.out.mono ?_
                rintro e w4 ⟨ka, kc, rfl, hq, hbel⟩
                have Hb4 := Lib.hid (Hb3.out.trans (hbel.mono Hb3.out.size))
                have HTQ := Lib.hid (typed_x Q ka kc x w4 hq.row Hkq.out)
                obtain ⟨A3, hA3⟩ : ∃ A3, A3 = actIn Q x := ⟨_, rfl⟩
                rw [← hA3] at HTQ HB
                obtain ⟨a3, t3⟩ := A3
                simp only at HB
                clear hbel HOx z0 z1 hld1 hq hA3
                go_wp2_with fail
                refine HTQ.out.mono ?_
                rintro e w5 ⟨rfl, hbel⟩
                have Hb5 := Lib.hid (Hb4.out.trans (hbel.mono Hb4.out.size))
                have hne := int_ne1 a3
                clear hbel HTQ
                go_wp2_with fail
                go_meet
                case rel => exact ⟨by rw [HB.out]; simp, Hb5⟩
              · have h1b : (a2 == 1) = false := beq_eq_false_iff_ne.2 ha2
                have Hz := Lib.hid (show (!wrapOk s r x) = true by rw [HB.out]; simp [ha2])
                have hne1 : (a2 != 1) = true := by simp [ha2]
                have Hb3 := Lib.hid hbel
                clear hbel HT y0 y1 hlr0
                go_wp2_with fail
                go_meet
                case rel => exact ⟨by rw [Hz.out], Hb3⟩
            · have h4b : (a1 == 4) = false := beq_eq_false_iff_ne.2 h4
              have Hz := Lib.hid (show (!wrapOk s r x) = false by rw [HW.out]; simp [h4])
              go_wp2_with fail
              go_meet
              case rel => exact ⟨by rw [Hz.out], (show Below _ _ _ from Below.refl _ _)⟩
          case rest =>
            obtain ⟨rfl, hby⟩ := hcut
            have Hb3 := Lib.hid (show Below wC.heap.size wC _ from Hb2.out.trans (hby.out.mono Hb2.out.size))
            obtain ⟨B, hB⟩ : ∃ B, B = wrapOk s r x := ⟨_, rfl⟩
            rw [← hB] at Hst ⊢
            clear hB y0 y1 yl hlr0 HT hby HY HW
            cases B with
            | false =>
              have Hz := Lib.hid (show false = R from Hst.out)
              go_wp2_with fail
              go_ret
              exact ⟨ret_bool Hz.out, Hbx.out.trans (Hb3.out.mono Hbx.out.size)⟩
            | true =>
              have HN := Lib.hid (show ((l.drop (k + 1)).all (wrapOk s r) && lastFill r) = R from Hst.out)
              go_wp2_with fail
              go_roundg (l.length - (k + 1))
              case measure => omega
              case rel => exact ⟨k + 1, by go_num, by omega, HN, Hb3⟩
        · obtain rfl : k = l.length := by omega
          have Hfin := Lib.hid (show lastFill r = R by have h := hst.out; rw [List.drop_length] at h; simpa using h)
          have hnl : ¬ (l.length : Int) < l.length := by omega
          have HT := Lib.hid (Hr.out wr Hbr.out r.fillT)
          obtain ⟨⟨x0, x1, x2, x3, x4, x5, x6, x7⟩, -, xl⟩ := HX3.out.f8
          have hfa := field_do
          clear hst x0 x2 x3 x4 x5
          by_cases h1 : r.fill = 1
          · have Hz := Lib.hid (show decide (r.text.1 = 1) = R by rw [← Hfin.out]; unfold lastFill; rw [if_pos h1])
            rw [h1] at x6
            have heq1 : (r.text.1 == 1) = decide (r.text.1 = 1) := by by_cases h : r.text.1 = 1 <;> simp [h]
            clear h1 hlr0
            go_wp2_with fail
            go_ret
            exact ⟨ret_bool (by rw [← Hz.out]), Hbr.out⟩
          · have h1b : (r.fill == 1) = false := beq_eq_false_iff_ne.2 h1
            by_cases h2 : r.fill = 2
            · have Hz := Lib.hid (show decide ((actIn r r.fillT).1 = 1) = R by rw [← Hfin.out]; unfold lastFill; rw [if_neg h1, if_pos h2])
              obtain ⟨A1, hA1⟩ : ∃ A1, A1 = actIn r r.fillT := ⟨_, rfl⟩
              rw [← hA1] at HT Hz
              obtain ⟨a1, t1⟩ := A1
              simp only at Hz
              rw [h2] at x6
              have heq1 : (a1 == 1) = decide (a1 = 1) := by by_cases h : a1 = 1 <;> simp [h]
              clear h1 h1b h2 hA1
              go_wp2_with fail
              refine HT.out.mono ?_
              rintro e w1 ⟨rfl, hbel⟩
              have Hb1 := Lib.hid (Hbr.out.trans (hbel.mono Hbr.out.size))
              clear hbel HT hlr0
              go_wp2_with fail
              go_ret
              exact ⟨ret_bool (by rw [← Hz.out]), Hb1.out⟩
            · have h2b : (r.fill == 2) = false := beq_eq_false_iff_ne.2 h2
              have Hz := Lib.hid (show true = R by rw [← Hfin.out]; unfold lastFill; rw [if_neg h1, if_neg h2])
              clear hlr0
              go_wp2_with fail
              go_ret
              exact ⟨ret_bool Hz.out, Hbr.out⟩

end Go.Proofs.YtajclfjedlkbcaaGreatDoor
/- Walks: node.Same. -/
namespace Go.Proofs.YtajclfjedlkbcaaGreatDoor
open Go.RowKit Go.Redl
set_option linter.unusedVariables false

mutual
/-- Are two trees the same. -/
def sameN : NodeD → NodeD → Bool
  | .mk l ps t ks, .mk l' ps' t' ks' => l == l' && (decide (ps = ps') && (decide (t = t') && (decide (ks.length = ks'.length) && sameK ks ks')))
def sameK : List NodeD → List NodeD → Bool
  | [], _ => true
  | _ :: _, [] => true
  | k :: ks, k' :: ks' => sameN k k' && sameK ks ks'
end
mutual
theorem sameN_self : ∀ n : NodeD, sameN n n = true
  | .mk l ps t ks => by unfold sameN; simp [sameK_self ks]
theorem sameK_self : ∀ ks : List NodeD, sameK ks ks = true
  | [] => by unfold sameK; rfl
  | k :: ks => by unfold sameK; simp [sameN_self k, sameK_self ks]
end
mutual
theorem sameN_eq : ∀ n m : NodeD, sameN n m = true → n = m
  | .mk l ps t ks, .mk l' ps' t' ks', h => by
    unfold sameN at h
    simp only [Bool.and_eq_true, decide_eq_true_eq, beq_iff_eq] at h
    obtain ⟨h1, h2, h3, h4, h5⟩ := h
    subst h1; subst h2; subst h3
    rw [sameK_eq ks ks' h4 h5]
theorem sameK_eq : ∀ ks ks' : List NodeD, ks.length = ks'.length → sameK ks ks' = true → ks = ks'
  | [], [], _, _ => rfl
  | [], _ :: _, h, _ => by simp at h
  | _ :: _, [], h, _ => by simp at h
  | k :: ks, k' :: ks', h, h2 => by
    unfold sameK at h2
    simp only [Bool.and_eq_true] at h2
    rw [sameN_eq k k' h2.1, sameK_eq ks ks' (by simpa using h) h2.2]
end
theorem sameK_step {ks ks' : List NodeD} {k : Nat} (h : k < ks.length) (h' : k < ks'.length) : sameK (ks.drop k) (ks'.drop k) = (sameN ks[k] ks'[k] && sameK (ks.drop (k + 1)) (ks'.drop (k + 1))) := by
  conv => lhs; rw [List.drop_eq_getElem_cons h, List.drop_eq_getElem_cons h']
  simp only [sameK]
theorem sameK_end {ks ks' : List NodeD} {k : Nat} (h : ks.length ≤ k) : sameK (ks.drop k) (ks'.drop k) = true := by
  rw [List.drop_eq_nil_of_le h]; unfold sameK; rfl

theorem sameN_open (l l' : Bool) (ps ps' : List PropD) (t t' : List Int) (ks ks' : List NodeD) : sameN (.mk l ps t ks) (.mk l' ps' t' ks') = (l == l' && (decide (ps = ps') && (decide (t = t') && (decide (ks.length = ks'.length) && sameK ks ks')))) := by
  rw [sameN]
end Go.Proofs.YtajclfjedlkbcaaGreatDoor
/- Walks: the reference's Same at trees. -/
namespace Go.Proofs.YtajclfjedlkbcaaGreatDoor
open Go.RowKit Go.Redl
set_option linter.unusedVariables false

end Go.Proofs.YtajclfjedlkbcaaGreatDoor
/- Walks: the reference's Same at operations that are the same. -/
namespace Go.Proofs.YtajclfjedlkbcaaGreatDoor
open Go.RowKit Go.Redl
set_option linter.unusedVariables false

set_option maxHeartbeats 400000 in
theorem rpath_c (a a' : Option Addr) (cap cap' B : Nat) (xs ys : List Int) (w : World) (hr : RowA w B 1 a xs.length cap (xs.map (Value.int .i64))) (hr' : RowA w B 1 a' ys.length cap' (ys.map (Value.int .i64))) :
    Calls Tryz.prog 23 #[.slice a xs.length cap, .slice a' ys.length cap'] w fun e w' => e = .returned (.bool (decide (xs = ys))) ∧ Drawn w w' := by
  have hm : xs.length ≤ 9223372036854775807 := by have h1 := hr.le; have h2 := hr.max; unfold maxLen at h2; omega
  have hm' : ys.length ≤ 9223372036854775807 := by have h1 := hr'.le; have h2 := hr'.max; unfold maxLen at h2; omega
  by_cases hl : xs.length = ys.length
  · go_enter Tryz.func23, Tryz.ntmps23
    have hle : ys.length ≤ xs.length := by omega
    have hle' : xs.length ≤ ys.length := by omega
    have hne : (((xs.length : Nat) : Int) != (ys.length : Int)) = false := by simp [hl]
    have Hl := Lib.hid hl; clear hl
    go_wp2_with fail
    go_loopw [13] (fun i wr => ∃ k : Nat, k ≤ xs.length ∧ i = .int .i64 k ∧ SameTo xs ys k ∧ Drawn w wr) (fun i _ => xs.length - (intOf i).toNat)
    case atStart => exact ⟨0, Nat.zero_le _, rfl, sameTo_zero _ _, ⟨0, rfl⟩⟩
    case round =>
      obtain ⟨k, hk, rfl, hp, q, rfl⟩ := hrel
      have Hp := Lib.hid hp; clear hp
      by_cases hlt : k < xs.length
      · obtain ⟨b, off, rfl, hb, hcell⟩ := hr.int_at k hlt
        obtain ⟨b', off', rfl, hb', hcell'⟩ := hr'.int_at k (by omega)
        have hcell := hcell k hlt
        have hcell' := hcell' k (by omega)
        have hlt' : k < ys.length := by omega
        rw [getD_of_lt hlt] at hcell
        rw [getD_of_lt hlt'] at hcell'
        go_wp2_with fail
        by_cases he : xs[k] = ys[k]
        · have hne : (xs[k] != ys[k]) = false := by simp [he]
          have He := Lib.hid he; clear he
          go_quiet (fail)
          go_wp2_with fail
          go_roundw
          case rel => exact ⟨k + 1, by omega, by go_num, sameTo_succ Hp.out hlt hlt' He.out, by first | exact drawn_one _ _ | exact drawn_two _ _ _⟩
          case measure => simp [intOf]; omega
        · have hne : (xs[k] != ys[k]) = true := by simp [he]
          have He := Lib.hid he; clear he
          go_quiet (fail)
          go_wp2_with fail
          go_ret
          exact ⟨ret_bool (by simp [same_not hlt hlt' He.out]), drawn_two _ _ _⟩
      · go_wp2_with fail
        go_ret
        obtain rfl : k = xs.length := by omega
        exact ⟨ret_bool (by simp [sameTo_all Hp.out Hl.out]), drawn_one _ _⟩
  · have hne : (((xs.length : Nat) : Int) != (ys.length : Int)) = true := by simp; omega
    have Hl := Lib.hid hl; clear hl
    go_enter Tryz.func23, Tryz.ntmps23
    go_wp2_with fail
    go_ret
    exact ⟨ret_bool (by simp [show xs ≠ ys from fun h => Hl.out (by rw [h])]), drawn_zero _⟩


theorem At.f21 {w : World} {N : Nat} {c0 c1 c2 c3 c4 c5 c6 c7 c8 c9 c10 c11 c12 c13 c14 c15 c16 c17 c18 c19 c20 : Value} {T : TypeId} (h : At w N [c0, c1, c2, c3, c4, c5, c6, c7, c8, c9, c10, c11, c12, c13, c14, c15, c16, c17, c18, c19, c20] T) : (w.cell? ⟨N, 0, none⟩ = some c0 ∧ w.cell? ⟨N, 1, none⟩ = some c1 ∧ w.cell? ⟨N, 2, none⟩ = some c2 ∧ w.cell? ⟨N, 3, none⟩ = some c3 ∧ w.cell? ⟨N, 4, none⟩ = some c4 ∧ w.cell? ⟨N, 5, none⟩ = some c5 ∧ w.cell? ⟨N, 6, none⟩ = some c6 ∧ w.cell? ⟨N, 7, none⟩ = some c7 ∧ w.cell? ⟨N, 8, none⟩ = some c8 ∧ w.cell? ⟨N, 9, none⟩ = some c9 ∧ w.cell? ⟨N, 10, none⟩ = some c10 ∧ w.cell? ⟨N, 11, none⟩ = some c11 ∧ w.cell? ⟨N, 12, none⟩ = some c12 ∧ w.cell? ⟨N, 13, none⟩ = some c13 ∧ w.cell? ⟨N, 14, none⟩ = some c14 ∧ w.cell? ⟨N, 15, none⟩ = some c15 ∧ w.cell? ⟨N, 16, none⟩ = some c16 ∧ w.cell? ⟨N, 17, none⟩ = some c17 ∧ w.cell? ⟨N, 18, none⟩ = some c18 ∧ w.cell? ⟨N, 19, none⟩ = some c19 ∧ w.cell? ⟨N, 20, none⟩ = some c20) ∧ (∀ j, w.frozen? ⟨N, j, none⟩ = false) ∧ N < w.heap.size :=
  ⟨⟨h.cell 0 rfl, h.cell 1 rfl, h.cell 2 rfl, h.cell 3 rfl, h.cell 4 rfl, h.cell 5 rfl, h.cell 6 rfl, h.cell 7 rfl, h.cell 8 rfl, h.cell 9 rfl, h.cell 10 rfl, h.cell 11 rfl, h.cell 12 rfl, h.cell 13 rfl, h.cell 14 rfl, h.cell 15 rfl, h.cell 16 rfl, h.cell 17 rfl, h.cell 18 rfl, h.cell 19 rfl, h.cell 20 rfl⟩, fun j => Lib.frozen_of_heap h _, h.lt⟩


/-- Yes. -/
abbrev YesP (W : World) (e : Ending) (w' : World) : Prop := e = .returned (.bool true) ∧ Below W.heap.size W w'
theorem rpath_yes (p : List Int) (a a' : Option Addr) (c c' : Nat) (w : World) (h : RowA w w.heap.size 1 a p.length c (p.map (Value.int .i64))) (h' : RowA w w.heap.size 1 a' p.length c' (p.map (Value.int .i64))) :
    Calls Tryz.prog 23 #[.slice a p.length c, .slice a' p.length c'] w (YesP w) :=
  (rpath_c a a' c c' _ p p w h h').mono fun e w' hh => by obtain ⟨rfl, hd⟩ := hh; exact ⟨ret_bool (by simp), hd.below _⟩
end Go.Proofs.YtajclfjedlkbcaaGreatDoor
/- Walks: paths compared; whether one is the same as, or above, another one. -/
namespace Go.Proofs.YtajclfjedlkbcaaGreatDoor
open Go.RowKit Go.Redl
set_option linter.unusedVariables false

def cmpI (a b : Int) : Int := if a < b then -1 else if b < a then 1 else 0
/-- Two paths, number by number. -/
def cmpL : List Int → List Int → Int
  | [], [] => 0
  | [], _ :: _ => -1
  | _ :: _, [] => 1
  | x :: a, y :: b => if cmpI x y = 0 then cmpL a b else cmpI x y
theorem cmpI_zero {x y : Int} : cmpI x y = 0 ↔ x = y := by unfold cmpI; split <;> (try split) <;> omega
theorem cmpI_neg {x y : Int} : cmpI x y < 0 ↔ x < y := by unfold cmpI; split <;> (try split) <;> omega
theorem cmpL_self : ∀ a : List Int, cmpL a a = 0
  | [] => rfl
  | x :: a => by unfold cmpL; rw [if_pos (by simp [cmpI]), cmpL_self a]
theorem cmpL_eq : ∀ {a b : List Int}, cmpL a b = 0 → a = b
  | [], [], _ => rfl
  | [], _ :: _, h => by simp [cmpL] at h
  | _ :: _, [], h => by simp [cmpL] at h
  | x :: a, y :: b, h => by
    unfold cmpL at h
    split at h
    · rename_i h0
      rw [cmpL_eq h, cmpI_zero.1 h0]
    · exact absurd h ‹_›
theorem cmpL_swap : ∀ a b : List Int, cmpL b a = -cmpL a b
  | [], [] => rfl
  | [], _ :: _ => rfl
  | _ :: _, [] => rfl
  | x :: a, y :: b => by
    unfold cmpL
    have : cmpI y x = -cmpI x y := by unfold cmpI; split <;> (try split) <;> (try split) <;> omega
    rw [this]
    by_cases h : cmpI x y = 0
    · rw [if_pos h, if_pos (by omega), cmpL_swap a b]
    · rw [if_neg h, if_neg (by omega)]
theorem cmpL_trans : ∀ {a b c : List Int}, cmpL a b < 0 → cmpL b c < 0 → cmpL a c < 0
  | [], _, [], h1, h2 => by
    rename_i b
    cases b with
    | nil => simp [cmpL] at h1
    | cons y b => simp [cmpL] at h2
  | [], _, _ :: _, h1, h2 => by simp [cmpL]
  | _ :: _, [], _, h1, h2 => by simp [cmpL] at h1
  | _ :: _, _ :: _, [], h1, h2 => by simp [cmpL] at h2
  | x :: a, y :: b, z :: c, h1, h2 => by
    unfold cmpL at h1 h2 ⊢
    by_cases e1 : cmpI x y = 0
    · obtain rfl := cmpI_zero.1 e1
      rw [if_pos e1] at h1
      by_cases e2 : cmpI x z = 0
      · rw [if_pos e2] at h2 ⊢
        exact cmpL_trans h1 h2
      · rw [if_neg e2] at h2 ⊢; exact h2
    · rw [if_neg e1] at h1
      have hxy := cmpI_neg.1 h1
      by_cases e2 : cmpI y z = 0
      · obtain rfl := cmpI_zero.1 e2
        rw [if_neg e1]; exact h1
      · rw [if_neg e2] at h2
        have hyz := cmpI_neg.1 h2
        have hxz : cmpI x z < 0 := cmpI_neg.2 (by omega)
        rw [if_neg (by omega)]; exact hxz
theorem cmpL_three (a b : List Int) : cmpL a b < 0 ∨ a = b ∨ cmpL b a < 0 := by
  rcases Int.lt_trichotomy (cmpL a b) 0 with h | h | h
  · exact .inl h
  · exact .inr (.inl (cmpL_eq h))
  · exact .inr (.inr (by rw [cmpL_swap]; omega))

theorem nan_ent : ∀ args w, (callFunc 166 args).run Tryz.prog w = .ok (.enter 166 args) w := by intro args w; kernel_rfl
set_option maxRecDepth 100000 in
theorem nan_c (x : Int) (w : World) : Calls Tryz.prog 166 #[.int .i64 x] w fun e w' => e = .returned (.bool false) ∧ w' = w := by
  have hne : (x != x) = false := by simp
  go_enter Tryz.func166, Tryz.ntmps166
  go_wp2_with fail
  go_ret
  exact ⟨rfl, rfl⟩
theorem cmpi_ent : ∀ args w, (callFunc 134 args).run Tryz.prog w = .ok (.enter 134 args) w := by intro args w; kernel_rfl
set_option maxRecDepth 100000 in
theorem cmpi_c (x y : Int) (w : World) : Calls Tryz.prog 134 #[.int .i64 x, .int .i64 y] w fun e w' => e = .returned (.int .i64 (cmpI x y)) ∧ w' = w := by
  have HX := Lib.hid (nan_c x w); have HY := Lib.hid (nan_c y w)
  obtain ⟨z, hz⟩ : ∃ z, z = cmpI x y := ⟨_, rfl⟩
  rw [← hz]
  have Hz := Lib.hid (show (x < y → z = -1) ∧ (¬ x < y → y < x → z = 1) ∧ (¬ x < y → ¬ y < x → z = 0) from ⟨fun h => by rw [hz, cmpI, if_pos h], fun h h' => by rw [hz, cmpI, if_neg h, if_pos h'], fun h h' => by rw [hz, cmpI, if_neg h, if_neg h']⟩)
  clear hz
  go_enter Tryz.func134, Tryz.ntmps134
  go_wp2_with fail
  refine HX.out.mono ?_
  rintro e w1 ⟨rfl, rfl⟩
  go_wp2_with fail
  refine HY.out.mono ?_
  rintro e w1 ⟨rfl, rfl⟩
  by_cases h1 : x < y
  · have Hr := Lib.hid (Hz.out.1 (by omega))
    go_wp2_with fail
    go_ret
    exact ⟨ret_int Hr.out.symm, rfl⟩
  · by_cases h2 : y < x
    · have Hr := Lib.hid (Hz.out.2.1 (by omega) (by omega))
      have h3 : decide (x < y) = false := decide_eq_false (by omega)
      go_wp2_with fail
      go_ret
      exact ⟨ret_int Hr.out.symm, rfl⟩
    · have Hr := Lib.hid (Hz.out.2.2 (by omega) (by omega))
      have h3 : decide (x < y) = false := decide_eq_false (by omega)
      have h4 : decide (y < x) = false := decide_eq_false (by omega)
      go_wp2_with fail
      go_ret
      exact ⟨ret_int Hr.out.symm, rfl⟩
theorem scmp_ent : ∀ args w, (callFunc 110 args).run Tryz.prog w = .ok (.enter 110 args) w := by intro args w; kernel_rfl
theorem cmpL_step {xs ys : List Int} {k : Nat} (h1 : k < xs.length) (h2 : k < ys.length) : cmpL (xs.drop k) (ys.drop k) = if cmpI xs[k] ys[k] = 0 then cmpL (xs.drop (k + 1)) (ys.drop (k + 1)) else cmpI xs[k] ys[k] := by
  rw [List.drop_eq_getElem_cons h1, List.drop_eq_getElem_cons h2]; rfl
set_option maxRecDepth 100000 in
set_option maxHeartbeats 2000000 in
theorem scmp_c (xs ys : List Int) (a a' : Option Addr) (cap cap' B : Nat) (w : World) (hr : RowA w B 1 a xs.length cap (xs.map (Value.int .i64))) (hr' : RowA w B 1 a' ys.length cap' (ys.map (Value.int .i64))) :
    Calls Tryz.prog 110 #[.slice a xs.length cap, .slice a' ys.length cap'] w fun e w' => e = .returned (.int .i64 (cmpL xs ys)) ∧ w' = w := by
  obtain ⟨z, hz⟩ : ∃ z, z = cmpL xs ys := ⟨_, rfl⟩
  rw [← hz]
  have Hz := Lib.hid hz
  clear hz
  have H63 := Lib.hid (show xs.length ≤ 9223372036854775807 from Nat.le_trans hr.le (by have := hr.max; unfold maxLen at this; omega))
  go_enter Tryz.func110, Tryz.ntmps110
  go_wp2_with fail
  go_loopg [11, 5, 6, 7, 8] xs.length (fun g i _ _ _ _ wr => ∃ k : Nat, i = .int .i64 k ∧ k + g = xs.length ∧ k ≤ ys.length ∧ Hid (cmpL (xs.drop k) (ys.drop k) = z) ∧ wr = w)
  case atStart => exact ⟨0, rfl, by omega, by omega, Hz.out.symm, rfl⟩
  case round =>
    obtain ⟨k, rfl, hg, hky, hst, rfl⟩ := hrel
    by_cases hlt : k < xs.length
    · have hlti : (k : Int) < xs.length := by omega
      obtain ⟨b, off, rfl, hb, hcell0⟩ := hr.int_at k hlt
      have hcell := hcell0 k hlt
      rw [getD_of_lt hlt] at hcell
      clear hcell0
      by_cases hly : k < ys.length
      ·
        have hlyi : (k : Int) < ys.length := by omega
        have hge : decide ((ys.length : Int) ≤ k) = false := decide_eq_false (by omega)
        have hw1 : IntKind.i64.wrap ((k : Int) + 1) = (k : Int) + 1 := IntWalk.i64_in _ (by have := H63.out; omega)
        obtain ⟨b', off', rfl, hb', hcell0⟩ := hr'.int_at k hly
        have hcell' := hcell0 k hly
        rw [getD_of_lt hly] at hcell'
        clear hcell0
        have Hs := Lib.hid ((cmpL_step hlt hly).symm.trans hst.out)
        have HC := Lib.hid (cmpi_c xs[k] ys[k] wr)
        generalize xs[k] = x at hcell Hs HC
        generalize ys[k] = y at hcell' Hs HC
        clear hst
        by_cases h0 : cmpI x y = 0
        ·
          have Hs2 := Lib.hid (show cmpL (xs.drop (k + 1)) (ys.drop (k + 1)) = z by have h := Hs.out; rwa [if_pos h0] at h)
          rw [h0] at HC
          clear Hs h0
          go_wp2_with fail
          refine HC.out.mono ?_
          rintro e w1 ⟨rfl, rfl⟩
          clear HC
          go_wp2_with fail
          go_roundg (xs.length - (k + 1))
          case measure => omega
          case rel => exact ⟨k + 1, by go_num, by omega, by omega, Hs2, rfl⟩
        ·
          have Hs2 := Lib.hid (show cmpI x y = z by have h := Hs.out; rwa [if_neg h0] at h)
          have hne : (cmpI x y != 0) = true := by simpa using h0
          clear Hs h0
          generalize cmpI x y = c at HC Hs2 hne
          go_wp2_with fail
          refine HC.out.mono ?_
          rintro e w1 ⟨rfl, rfl⟩
          clear HC
          go_wp2_with fail
          go_ret
          exact ⟨ret_int Hs2.out, rfl⟩
      ·
        obtain rfl : k = ys.length := by omega
        have hge : decide ((ys.length : Int) ≤ ys.length) = true := decide_eq_true (by omega)
        have Hs := Lib.hid (show (1 : Int) = z by
          have h := hst.out
          rw [List.drop_length, List.drop_eq_getElem_cons hlt] at h
          exact h)
        clear hst
        go_wp2_with fail
        go_ret
        exact ⟨ret_int Hs.out, rfl⟩
    ·
      obtain rfl : k = xs.length := by omega
      by_cases hly : xs.length < ys.length
      · have hlyi : (xs.length : Int) < ys.length := by omega
        have Hs := Lib.hid (show (-1 : Int) = z by
          have h := hst.out
          rw [List.drop_length, List.drop_eq_getElem_cons hly] at h
          exact h)
        clear hst
        go_wp2_with fail
        go_ret
        exact ⟨ret_int Hs.out, rfl⟩
      · have hlyi : decide ((xs.length : Int) < ys.length) = false := decide_eq_false (by omega)
        have Hs := Lib.hid (show (0 : Int) = z by
          have h := hst.out
          rw [List.drop_length, List.drop_of_length_le (show ys.length ≤ xs.length by omega)] at h
          exact h)
        clear hst
        go_wp2_with fail
        go_ret
        exact ⟨ret_int Hs.out, rfl⟩

theorem tcmp_ent : ∀ args w, (callFunc 64 args).run Tryz.prog w = .ok (.enter 64 args) w := by intro args w; kernel_rfl
set_option maxRecDepth 100000 in
theorem tcmp_c (xs ys : List Int) (a a' : Option Addr) (cap cap' B : Nat) (w : World) (hr : RowA w B 1 a xs.length cap (xs.map (Value.int .i64))) (hr' : RowA w B 1 a' ys.length cap' (ys.map (Value.int .i64))) :
    Calls Tryz.prog 64 #[.slice a xs.length cap, .slice a' ys.length cap'] w fun e w' => e = .returned (.int .i64 (cmpL xs ys)) ∧ w' = w := by
  have HC := Lib.hid (scmp_c xs ys a a' cap cap' B w hr hr')
  clear hr hr'
  go_enter Tryz.func64, Tryz.ntmps64
  go_wp2_with fail
  refine HC.out.mono ?_
  rintro e w1 ⟨rfl, rfl⟩
  go_wp2_with fail
  go_ret
  exact ⟨rfl, rfl⟩

set_option maxHeartbeats 400000 in
theorem spath_c (a a' : Option Addr) (cap cap' B : Nat) (xs ys : List Int) (w : World) (hr : RowA w B 1 a xs.length cap (xs.map (Value.int .i64))) (hr' : RowA w B 1 a' ys.length cap' (ys.map (Value.int .i64))) :
    Calls Tryz.prog 47 #[.slice a xs.length cap, .slice a' ys.length cap'] w fun e w' => e = .returned (.bool (decide (xs = ys))) ∧ Drawn w w' := by
  have hm : xs.length ≤ 9223372036854775807 := by have h1 := hr.le; have h2 := hr.max; unfold maxLen at h2; omega
  have hm' : ys.length ≤ 9223372036854775807 := by have h1 := hr'.le; have h2 := hr'.max; unfold maxLen at h2; omega
  by_cases hl : xs.length = ys.length
  · go_enter Tryz.func47, Tryz.ntmps47
    have hle : ys.length ≤ xs.length := by omega
    have hle' : xs.length ≤ ys.length := by omega
    have hne : (((xs.length : Nat) : Int) != (ys.length : Int)) = false := by simp [hl]
    have Hl := Lib.hid hl; clear hl
    go_wp2_with fail
    go_loopw [13] (fun i wr => ∃ k : Nat, k ≤ xs.length ∧ i = .int .i64 k ∧ SameTo xs ys k ∧ Drawn w wr) (fun i _ => xs.length - (intOf i).toNat)
    case atStart => exact ⟨0, Nat.zero_le _, rfl, sameTo_zero _ _, ⟨0, rfl⟩⟩
    case round =>
      obtain ⟨k, hk, rfl, hp, q, rfl⟩ := hrel
      have Hp := Lib.hid hp; clear hp
      by_cases hlt : k < xs.length
      · obtain ⟨b, off, rfl, hb, hcell⟩ := hr.int_at k hlt
        obtain ⟨b', off', rfl, hb', hcell'⟩ := hr'.int_at k (by omega)
        have hcell := hcell k hlt
        have hcell' := hcell' k (by omega)
        have hlt' : k < ys.length := by omega
        rw [getD_of_lt hlt] at hcell
        rw [getD_of_lt hlt'] at hcell'
        go_wp2_with fail
        by_cases he : xs[k] = ys[k]
        · have hne : (xs[k] != ys[k]) = false := by simp [he]
          have He := Lib.hid he; clear he
          go_quiet (fail)
          go_wp2_with fail
          go_roundw
          case rel => exact ⟨k + 1, by omega, by go_num, sameTo_succ Hp.out hlt hlt' He.out, by first | exact drawn_one _ _ | exact drawn_two _ _ _⟩
          case measure => simp [intOf]; omega
        · have hne : (xs[k] != ys[k]) = true := by simp [he]
          have He := Lib.hid he; clear he
          go_quiet (fail)
          go_wp2_with fail
          go_ret
          exact ⟨ret_bool (by simp [same_not hlt hlt' He.out]), drawn_two _ _ _⟩
      · go_wp2_with fail
        go_ret
        obtain rfl : k = xs.length := by omega
        exact ⟨ret_bool (by simp [sameTo_all Hp.out Hl.out]), drawn_one _ _⟩
  · have hne : (((xs.length : Nat) : Int) != (ys.length : Int)) = true := by simp; omega
    have Hl := Lib.hid hl; clear hl
    go_enter Tryz.func47, Tryz.ntmps47
    go_wp2_with fail
    go_ret
    exact ⟨ret_bool (by simp [show xs ≠ ys from fun h => Hl.out (by rw [h])]), drawn_zero _⟩


theorem seq_ent : ∀ args w, (callFunc 47 args).run Tryz.prog w = .ok (.enter 47 args) w := by intro args w; kernel_rfl
theorem tsame_ent : ∀ args w, (callFunc 66 args).run Tryz.prog w = .ok (.enter 66 args) w := by intro args w; kernel_rfl
set_option maxRecDepth 100000 in
theorem tsame_c (xs ys : List Int) (a a' : Option Addr) (cap cap' B : Nat) (w : World) (hr : RowA w B 1 a xs.length cap (xs.map (Value.int .i64))) (hr' : RowA w B 1 a' ys.length cap' (ys.map (Value.int .i64))) :
    Calls Tryz.prog 66 #[.slice a xs.length cap, .slice a' ys.length cap'] w fun e w' => e = .returned (.bool (decide (xs = ys))) ∧ Drawn w w' := by
  have HC := Lib.hid (spath_c a a' cap cap' B xs ys w hr hr')
  clear hr hr'
  go_enter Tryz.func66, Tryz.ntmps66
  go_wp2_with fail
  refine HC.out.mono ?_
  rintro e w1 ⟨rfl, hd⟩
  have Hd := Lib.hid hd
  clear hd
  go_wp2_with fail
  go_ret
  exact ⟨ret_bool (by simp), Hd.out⟩

end Go.Proofs.YtajclfjedlkbcaaGreatDoor
