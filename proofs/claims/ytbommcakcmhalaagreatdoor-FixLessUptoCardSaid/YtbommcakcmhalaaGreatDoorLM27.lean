/- Parts of the proof, one behind the other: RMH, RMI, RMY, RMZ. -/
import Derived.Test.YtbommcakcmhalaaGreatDoorLM25
import Derived.Test.YtbommcakcmhalaaGreatDoorLM26
import Derived.Test.YtbommcakcmhalaaGreatDoorLM7
/- Walk: table.formed. -/
set_option linter.unusedVariables false
set_option linter.unusedSimpArgs false
set_option maxHeartbeats 8000000
set_option maxRecDepth 100000
namespace Go.Proofs.YtbommcakcmhalaaGreatDoor
open Go.RowKit Go.Redl
theorem typesP_names (l : List PairD) : pairNames l = (l.map (·.1)).map strV := by simp [pairNames]
theorem row_strs {w : World} {N : Nat} {l : List (List UInt8)} {T : TypeId} (h : At w N (l.map strV) T) (hn : l.length <= 100000000) : RowA w (N + 1) 1 (some ⟨N, 0, none⟩) l.length l.length (l.map strV) :=
 ⟨by simp, Nat.le_refl _, by unfold maxLen; omega, (fun u hu => by obtain ⟨t, -, rfl⟩ := List.mem_map.1 hu; rfl), (fun e => by cases e), fun _ => ⟨N, 0, rfl, by omega, fun j u hj => by rw [Nat.zero_add]; exact h.cell j hj⟩⟩
theorem rising_at (l : List (List UInt8)) (n N : Nat) (w : World) (hl : l.length = n) (h : At w N (l.map strV) 9) (hn : n <= 100000000) (hb : ∀ t ∈ l, t.length <= 1000000000) :
 Calls Tryz.prog 43 #[.slice (some ⟨N, 0, none⟩) n n] w fun e w' => e = .returned (.bool (riseB l)) /\ Below w.heap.size w w' := by
 subst hl
 exact rising_c l _ l.length w ((row_strs h hn).keep ((Below.refl _ _)) h.lt) hn hb
theorem formed_c (r : RuleD) (a : Option Addr) (c : Nat) (W : World) (hr : RowA W W.heap.size 3 a r.kids.length c (pairCells r.kids)) (hw : r.wt <= 100000000) :
 Calls Tryz.prog 49 #[.agg #[strV r.type, .int .i64 r.text.1, strV r.text.2, .int .i64 r.other.1, strV r.other.2, .slice a r.kids.length c, .int .i64 r.fill, strV r.fillT]] W fun e w' => e = .returned (.bool (formedB r)) /\ Below W.heap.size W w' := by
 have hkl : r.kids.length <= 100000000 := by have := kids_wt r; omega
 have hkw : ∀ p ∈ r.kids, p.1.length <= 1000000000 /\ p.2.2.length <= 1000000000 := fun p hp => by have := pairsWt_mem hp; unfold RuleD.wt at hw; omega
 have htl : r.text.2.length <= 1000000000 := by unfold RuleD.wt at hw; omega
 have hol : r.other.2.length <= 1000000000 := by unfold RuleD.wt at hw; omega
 have hfl : r.fillT.length <= 1000000000 := by unfold RuleD.wt at hw; omega
 obtain ⟨R, hR⟩ : ∃ R, R = formedB r := ⟨_, rfl⟩
 have HR := Lib.hid (show ((r.kids.drop 0).all (fun p => actB true p.2) && (fillB r && (actB false r.text && (actB true r.other && riseB (r.kids.map (·.1)))))) = R from hR.symm)
 rw [<- hR]
 obtain ⟨ty, ⟨td, tt⟩, ⟨od, ot⟩, kids, fill, ft⟩ := r
 simp only at hkl hkw htl hol hfl hr HR ⊢
 obtain ⟨w0, hw0⟩ : ∃ w0, w0 = W.alloc (Obj.cells #[strV ty, .int .i64 td, strV tt, .int .i64 od, strV ot, .slice a kids.length c, .int .i64 fill, strV ft] 27) := ⟨_, rfl⟩
 have hb0 : Below W.heap.size W w0 := by rw [hw0]; exact one_below _ _
 have hA : At w0 W.heap.size [strV ty, .int .i64 td, strV tt, .int .i64 od, strV ot, .slice a kids.length c, .int .i64 fill, strV ft] 27 := by rw [hw0]; exact At.fresh W _ _
 obtain ⟨⟨x0, x1, x2, x3, x4, x5, x6, x7⟩, -, xl⟩ := hA.f8
 have Hw0 := Lib.hid hw0; have Hb0 := Lib.hid hb0; have HA := Lib.hid hA
 have Hr := Lib.hid (fun (w' : World) (hb : Below W.heap.size W w') => hr.keep hb hb.size)
 have Hkw := Lib.hid hkw; have Htl := Lib.hid htl; have Hol := Lib.hid hol; have Hfl := Lib.hid hfl
 clear hw0 hb0 hA hr hw hR hkw htl hol hfl
 go_enter Tryz.func49, Tryz.ntmps49
 go_upto_region 1 with fail
 rw [<- Hw0.out]
 clear Hw0
 go_wp2_with fail
 go_loopg [9] kids.length (fun g i wr => ∃ k : Nat, i = .int .i64 k /\ k + g = kids.length /\ Hid (((kids.drop k).all (fun p => actB true p.2) && (fillB ⟨ty, (td, tt), (od, ot), kids, fill, ft⟩ && (actB false (td, tt) && (actB true (od, ot) && riseB (kids.map (·.1)))))) = R) /\ Hid (Below w0.heap.size w0 wr))
 case atStart => exact ⟨0, rfl, by omega, HR, (show Below _ _ _ from Below.refl _ _)⟩
 case round =>
  obtain ⟨k, rfl, hg, hst, hbr⟩ := hrel
  have Hbr := Lib.hid (Hb0.out.trans (hbr.out.mono Hb0.out.size))
  clear x0 x1 x2 x3 x4 x5 x6 x7
  by_cases hlt : k < kids.length
  . have hlti : (k : Int) < kids.length := by omega
    obtain ⟨b, off, rfl, hlb, p0, p1, p2⟩ := (Hr.out wr Hbr.out).pair_at k hlt
    have Hst := Lib.hid (show (actB true kids[k].2 && ((kids.drop (k + 1)).all (fun p => actB true p.2) && (fillB ⟨ty, (td, tt), (od, ot), kids, fill, ft⟩ && (actB false (td, tt) && (actB true (od, ot) && riseB (kids.map (·.1))))))) = R by
     have h := hst.out
     rw [List.drop_eq_getElem_cons hlt, List.all_cons, Bool.and_assoc] at h
     exact h)
    have Hq := Lib.hid (Hkw.out _ (List.getElem_mem hlt)).2
    generalize kids[k] = q at p0 p1 p2 Hst Hq
    obtain ⟨q0, q1, q2⟩ := q
    simp only at p0 p1 p2
    have HC := Lib.hid (fun (w1 : World) => acts_c q1 q2 true w1 Hq.out)
    clear hlb hst
    cases hact : actB true (q1, q2) with
    | false =>
      have Hz := Lib.hid (show false = R by have h := Hst.out; simp only at h; rw [hact] at h; exact h)
      rw [hact] at HC
      clear Hst hact
      go_wp2_with fail
      refine (HC.out _).mono ?_
      rintro e w2 ⟨rfl, hbel⟩
      have Hb2 := Lib.hid (Hbr.out.trans (((one_below wr (Obj.cells #[strV q0, .int .i64 q1, strV q2] 143)).trans (hbel.mono (one_below wr _).size)).mono Hbr.out.size))
      clear hbel HC p0 p1 p2
      go_wp2_with fail
      go_ret
      exact ⟨ret_bool Hz.out, Hb2.out⟩
    | true =>
      have HN := Lib.hid (show ((kids.drop (k + 1)).all (fun p => actB true p.2) && (fillB ⟨ty, (td, tt), (od, ot), kids, fill, ft⟩ && (actB false (td, tt) && (actB true (od, ot) && riseB (kids.map (·.1)))))) = R by have h := Hst.out; simp only at h; rw [hact] at h; simpa using h)
      rw [hact] at HC
      clear Hst hact
      go_wp2_with fail
      refine (HC.out _).mono ?_
      rintro e w2 ⟨rfl, hbel⟩
      have Hb2 := Lib.hid (show Below w0.heap.size w0 w2 from hbr.out.trans (((one_below wr (Obj.cells #[strV q0, .int .i64 q1, strV q2] 143)).trans (hbel.mono (one_below wr _).size)).mono hbr.out.size))
      clear hbel HC p0 p1 p2
      go_wp2_with fail
      go_roundg (kids.length - (k + 1))
      case measure => omega
      case rel => exact ⟨k + 1, by go_num, by omega, HN, Hb2⟩
  . obtain rfl : k = kids.length := by omega
    have Hfin := Lib.hid (show (fillB ⟨ty, (td, tt), (od, ot), kids, fill, ft⟩ && (actB false (td, tt) && (actB true (od, ot) && riseB (kids.map (·.1))))) = R by have h := hst.out; rw [List.drop_length] at h; simpa using h)
    have hnl : ¬ (kids.length : Int) < kids.length := by omega
    obtain ⟨F, hF⟩ : ∃ F, F = fillB ⟨ty, (td, tt), (od, ot), kids, fill, ft⟩ := ⟨_, rfl⟩
    rw [<- hF] at Hfin
    have HF := Lib.hid (show F = ((decide (fill = 0 ∨ fill = 1) && decide (ft = [])) || (decide (fill = 2) && nameB ft)) from hF)
    obtain ⟨⟨x0, x1, x2, x3, x4, x5, x6, x7⟩, -, xl⟩ := (HA.out.kept hbr.out).f8
    have HN := Lib.hid (name_c ft wr Hfl.out)
    have heq := str_eqb ft []
    clear hst hF
    go_upto_region 7 with fail
    go_cut [5] (fun v wx => v = .bool F /\ Hid (Below wr.heap.size wr wx))
    case first =>
     by_cases h0 : fill = 0
     . subst h0
       cases ft with
       | nil =>
         have Hz := Lib.hid (show true = F from by rw [HF.out]; rfl)
         go_wp2_with fail
         go_meet
         case rel => exact ⟨by rw [<- Hz.out], (show Below _ _ _ from Below.refl _ _)⟩
       | cons f0 fs =>
         have Hz := Lib.hid (show false = F from by rw [HF.out]; rfl)
         go_wp2_with fail
         go_meet
         case rel => exact ⟨by rw [<- Hz.out], (show Below _ _ _ from Below.refl _ _)⟩
     . have h0b : (fill == 0) = false := beq_eq_false_iff_ne.2 h0
       by_cases h1 : fill = 1
       . subst h1
         cases ft with
         | nil =>
           have Hz := Lib.hid (show true = F from by rw [HF.out]; rfl)
           go_wp2_with fail
           go_meet
           case rel => exact ⟨by rw [<- Hz.out], (show Below _ _ _ from Below.refl _ _)⟩
         | cons f0 fs =>
           have Hz := Lib.hid (show false = F from by rw [HF.out]; rfl)
           go_wp2_with fail
           go_meet
           case rel => exact ⟨by rw [<- Hz.out], (show Below _ _ _ from Below.refl _ _)⟩
       . have h1b : (fill == 1) = false := beq_eq_false_iff_ne.2 h1
         by_cases h2 : fill = 2
         . subst h2
           have Hz := Lib.hid (show nameB ft = F from by rw [HF.out]; simp)
           go_wp2_with fail
           refine HN.out.mono ?_
           rintro e w2 ⟨rfl, hbel⟩
           have Hb2 := Lib.hid hbel
           clear hbel HN
           go_wp2_with fail
           go_meet
           case rel => exact ⟨by rw [Hz.out], Hb2⟩
         . have h2b : (fill == 2) = false := beq_eq_false_iff_ne.2 h2
           have Hz := Lib.hid (show false = F from by rw [HF.out]; simp [h0, h1, h2])
           go_wp2_with fail
           go_meet
           case rel => exact ⟨by rw [<- Hz.out], (show Below _ _ _ from Below.refl _ _)⟩
    case rest =>
     obtain ⟨rfl, hbx⟩ := hcut
     have Hbx := Lib.hid (Hbr.out.trans (hbx.out.mono Hbr.out.size))
     have HA2 := Lib.hid ((HA.out.kept hbr.out).kept hbx.out)
     have HT1 := Lib.hid (fun (w1 : World) => acts_c td tt false w1 Htl.out)
     have HT2 := Lib.hid (fun (w1 : World) => acts_c od ot true w1 Hol.out)
     clear x0 x1 x2 x3 x4 x5 x6 x7 HN HF hbr hbx
     obtain ⟨⟨x0, x1, x2, x3, x4, x5, x6, x7⟩, -, xl⟩ := HA2.out.f8
     cases F with
     | false =>
       have Hz := Lib.hid (show false = R from Hfin.out)
       go_wp2_with fail
       go_ret
       exact ⟨ret_bool Hz.out, Hbx.out⟩
     | true =>
       cases ht : actB false (td, tt) with
       | false =>
         have Hz := Lib.hid (show false = R by have h := Hfin.out; rw [ht] at h; exact h)
         rw [ht] at HT1
         clear Hfin ht
         go_wp2_with fail
         refine (HT1.out _).mono ?_
         rintro e w2 ⟨rfl, hbel⟩
         have Hb2 := Lib.hid (Hbx.out.trans (hbel.mono Hbx.out.size))
         clear x0 x1 x2 x3 x4 x5 x6 x7 hbel HT1
         go_wp2_with fail
         go_ret
         exact ⟨ret_bool Hz.out, Hb2.out⟩
       | true =>
         have Hfin2 := Lib.hid (show (actB true (od, ot) && riseB (kids.map (·.1))) = R by have h := Hfin.out; rw [ht] at h; simpa using h)
         rw [ht] at HT1
         clear Hfin ht
         go_wp2_with fail
         refine (HT1.out _).mono ?_
         rintro e w2 ⟨rfl, hbel⟩
         have Hb2 := Lib.hid (Hbx.out.trans (hbel.mono Hbx.out.size))
         have HA3 := Lib.hid (HA2.out.kept hbel)
         clear x0 x1 x2 x3 x4 x5 x6 x7 hbel HT1 HA2
         obtain ⟨⟨x0, x1, x2, x3, x4, x5, x6, x7⟩, -, xl⟩ := HA3.out.f8
         cases ho : actB true (od, ot) with
         | false =>
           have Hz := Lib.hid (show false = R by have h := Hfin2.out; rw [ho] at h; exact h)
           rw [ho] at HT2
           clear Hfin2 ho
           go_wp2_with fail
           refine (HT2.out _).mono ?_
           rintro e w3 ⟨rfl, hbel⟩
           have Hb3 := Lib.hid (Hb2.out.trans (hbel.mono Hb2.out.size))
           clear x0 x1 x2 x3 x4 x5 x6 x7 hbel HT2
           go_wp2_with fail
           go_ret
           exact ⟨ret_bool Hz.out, Hb3.out⟩
         | true =>
           have Hz := Lib.hid (show riseB (kids.map (·.1)) = R by have h := Hfin2.out; rw [ho] at h; simpa using h)
           rw [ho] at HT2
           clear Hfin2 ho
           go_wp2_with fail
           refine (HT2.out _).mono ?_
           rintro e w3 ⟨rfl, hbel⟩
           have Hb3 := Lib.hid (Hb2.out.trans (hbel.mono Hb2.out.size))
           have HA4 := Lib.hid (HA3.out.kept hbel)
           have HP := Lib.hid (typesP_c kids a c w3 (Hr.out w3 Hb3.out) hkl)
           clear x0 x1 x2 x3 x4 x5 x6 x7 hbel HT2 HA3
           obtain ⟨⟨x0, x1, x2, x3, x4, x5, x6, x7⟩, -, xl⟩ := HA4.out.f8
           go_wp2_with fail
           refine HP.out.mono ?_
           rintro e w4 ⟨rfl, hat, hbel⟩
           have Hb4 := Lib.hid (Hb3.out.trans (hbel.mono Hb3.out.size))
           rw [typesP_names] at hat
           have HQ := Lib.hid (rising_at (kids.map (·.1)) kids.length _ w4 (by simp) hat hkl (fun t ht => by obtain ⟨p, hp, rfl⟩ := List.mem_map.1 ht; exact (Hkw.out p hp).1))
           clear x0 x1 x2 x3 x4 x5 x6 x7 hbel HP hat
           go_wp2_with fail
           refine HQ.out.mono ?_
           rintro e w5 ⟨rfl, hbel⟩
           have Hb5 := Lib.hid (Hb4.out.trans (hbel.mono Hb4.out.size))
           clear hbel HQ
           go_wp2_with fail
           go_ret
           exact ⟨ret_bool Hz.out, Hb5.out⟩
end Go.Proofs.YtbommcakcmhalaaGreatDoor
/- Walk: table.settled. -/
namespace Go.Proofs.YtbommcakcmhalaaGreatDoor
open Go.RowKit Go.Redl
theorem typed_x (r : RuleD) (a : Option Addr) (c : Nat) (k : List UInt8) (W : World) (hr : RowA W W.heap.size 3 a r.kids.length c (pairCells r.kids)) (hn : r.kids.length <= 100000000) :
 Calls Tryz.prog 104 #[.agg #[strV r.type, .int .i64 r.text.1, strV r.text.2, .int .i64 r.other.1, strV r.other.2, .slice a r.kids.length c, .int .i64 r.fill, strV r.fillT], strV k] W (ActP W (actIn r k)) := typed_c r a c k W hr hn
/-- What is wrapped by a text's rule. -/
def badText (s : SchemaD) (r : RuleD) : Bool := decide (r.text.1 = 4) && (decide ((actIn r r.text.2).1 ≠ 1) || decide ((ruleOf s r.text.2).text.1 ≠ 1))
def lastFill (r : RuleD) : Bool := if r.fill = 1 then decide (r.text.1 = 1) else if r.fill = 2 then decide ((actIn r r.fillT).1 = 1) else true
theorem int_ne1 (x : Int) : (x != 1) = decide (x ≠ 1) := by by_cases h : x = 1 <;> simp [h]
theorem field_do (x : Int) (s : List UInt8) : ∀ w : World, (Instr.field 24 (.agg #[.int .i64 x, strV s]) 0).run Tryz.prog w = .ok (.int .i64 x) w := by intro w; kernel_rfl
theorem field_text (x0 : List UInt8) (x1 : Int) (x2 : List UInt8) (x3 : Int) (x4 : List UInt8) (x5 : Option Addr) (n c : Nat) (x6 : Int) (x7 : List UInt8) : ∀ w : World, (Instr.field 27 (.agg #[strV x0, .int .i64 x1, strV x2, .int .i64 x3, strV x4, .slice x5 n c, .int .i64 x6, strV x7]) 1).run Tryz.prog w = .ok (.agg #[.int .i64 x1, strV x2]) w := by intro w; kernel_rfl
theorem settled_c (s : SchemaD) (v : Value) (r : RuleD) (a : Option Addr) (c : Nat) (l : List (List UInt8)) (na : Option Addr) (nc : Nat) (W : World) (hw : s.wt <= 100000000) (hv : SchemaV W W.heap.size s v) (hr : RowA W W.heap.size 3 a r.kids.length c (pairCells r.kids)) (hk : r.kids.length <= 100000000)
 (hl : RowA W W.heap.size 1 na l.length nc (l.map strV)) (hll : l.length <= 1000000000) :
 Calls Tryz.prog 51 #[v, .agg #[strV r.type, .int .i64 r.text.1, strV r.text.2, .int .i64 r.other.1, strV r.other.2, .slice a r.kids.length c, .int .i64 r.fill, strV r.fillT], .slice na l.length nc] W fun e w' => e = .returned (.bool (settledL s r l)) /\ Below W.heap.size W w' := by
 have Hv := Lib.hid (fun (w' : World) (hb : Below W.heap.size W w') => hv.keep hb hb.size)
 have Hr := Lib.hid (fun (w' : World) (hb : Below W.heap.size W w') (k : List UInt8) => typed_x r a c k w' (hr.keep hb hb.size) hk)
 have Hl := Lib.hid (fun (w' : World) (hb : Below W.heap.size W w') => hl.keep hb hb.size)
 obtain ⟨sa, sc, css, ea, ec, o0, o1, o2, o3, o4, o5, rfl, -, -, -, -⟩ := hv.open
 have HO := Lib.hid (fun (w' : World) (hb : Below W.heap.size W w') (k : List UInt8) => ruleOf_c s _ k w' hw (Hv.out w' hb))
 have Hkl := Lib.hid (fun (k : List UInt8) => show (ruleOf s k).kids.length <= 100000000 by have := kids_wt (ruleOf s k); have := ruleOf_wt s k; omega)
 obtain ⟨R, hR⟩ : ∃ R, R = settledL s r l := ⟨_, rfl⟩
 have HR := Lib.hid (show (!badText s r && ((l.drop 0).all (wrapOk s r) && lastFill r)) = R from hR.symm)
 rw [<- hR]
 obtain ⟨w0, hw0⟩ : ∃ w0, w0 = ((W.alloc (Obj.cells #[.slice sa s.rules.length sc, strV s.els.type, .int .i64 s.els.text.1, strV s.els.text.2, .int .i64 s.els.other.1, strV s.els.other.2, .slice ea s.els.kids.length ec, .int .i64 s.els.fill, strV s.els.fillT, .int .i64 o0, .int .i64 o1, .int .i64 o2, .int .i64 o3, .int .i64 o4, .int .i64 o5, .int .i64 s.cap] 30)).alloc (Obj.cells #[strV r.type, .int .i64 r.text.1, strV r.text.2, .int .i64 r.other.1, strV r.other.2, .slice a r.kids.length c, .int .i64 r.fill, strV r.fillT] 27)).alloc (Obj.cells #[.int .i64 r.text.1, strV r.text.2] 24) := ⟨_, rfl⟩
 have hb0 : Below W.heap.size W w0 := by rw [hw0]; exact three_below _ _ _ _
 have hA : At w0 W.heap.size [.slice sa s.rules.length sc, strV s.els.type, .int .i64 s.els.text.1, strV s.els.text.2, .int .i64 s.els.other.1, strV s.els.other.2, .slice ea s.els.kids.length ec, .int .i64 s.els.fill, strV s.els.fillT, .int .i64 o0, .int .i64 o1, .int .i64 o2, .int .i64 o3, .int .i64 o4, .int .i64 o5, .int .i64 s.cap] 30 := by rw [hw0]; exact ((At.fresh W _ _).alloc _).alloc _
 have hX : At w0 (W.heap.size + 1) [strV r.type, .int .i64 r.text.1, strV r.text.2, .int .i64 r.other.1, strV r.other.2, .slice a r.kids.length c, .int .i64 r.fill, strV r.fillT] 27 := by rw [hw0]; exact (At.second W _ _ _).alloc _
 have hY : At w0 (W.heap.size + 1 + 1) [.int .i64 r.text.1, strV r.text.2] 24 := by rw [hw0]; exact At.third W _ _ _ _
 have hld := fun (w' : World) (h : At w' W.heap.size [.slice sa s.rules.length sc, strV s.els.type, .int .i64 s.els.text.1, strV s.els.text.2, .int .i64 s.els.other.1, strV s.els.other.2, .slice ea s.els.kids.length ec, .int .i64 s.els.fill, strV s.els.fillT, .int .i64 o0, .int .i64 o1, .int .i64 o2, .int .i64 o3, .int .i64 o4, .int .i64 o5, .int .i64 s.cap] 30) => load_at (P := Tryz.prog) h Tryz.underlying30 rfl (by kernel_rfl)
 simp [go_sem] at hld
 have HLD := Lib.hid hld
 have hlr := fun (w' : World) (h : At w' (W.heap.size + 1) [strV r.type, .int .i64 r.text.1, strV r.text.2, .int .i64 r.other.1, strV r.other.2, .slice a r.kids.length c, .int .i64 r.fill, strV r.fillT] 27) => load_at (P := Tryz.prog) h Tryz.underlying27 rfl (by kernel_rfl)
 simp [go_sem] at hlr
 have HLR := Lib.hid hlr
 have Hw0 := Lib.hid hw0; have Hb0 := Lib.hid hb0; have HA := Lib.hid hA; have HX := Lib.hid hX; have HY := Lib.hid hY
 have hld0 := hld w0 hA
 have hlr0 := hlr w0 hX
 have xl := hX.lt
 obtain ⟨⟨y0, y1⟩, -, yl⟩ := hY.f2
 have HT := Lib.hid (Hr.out w0 hb0 r.text.2)
 clear hv hw hr hl hld hlr hw0 hb0 hA hX hY hR
 go_enter Tryz.func51, Tryz.ntmps51
 go_upto_region 2 with fail
 rw [<- Hw0.out]
 clear Hw0
 go_cut [32] (fun b wx => b = .bool (badText s r) /\ Hid (Below w0.heap.size w0 wx))
 case first =>
  by_cases h4 : r.text.1 = 4
  ·
    obtain ⟨A1, hA1⟩ : ∃ A1, A1 = actIn r r.text.2 := ⟨_, rfl⟩
    obtain ⟨D1, hD1⟩ : ∃ D1, D1 = (ruleOf s r.text.2).text.1 := ⟨_, rfl⟩
    have HB := Lib.hid (show badText s r = (decide (A1.1 ≠ 1) || decide (D1 ≠ 1)) by unfold badText; rw [h4, <- hA1, <- hD1]; simp)
    rw [<- hA1] at HT
    rw [h4] at y0
    have HD1 := Lib.hid hD1
    obtain ⟨a1, t1⟩ := A1
    simp only at HB
    clear hA1 hD1 h4
    have hfa := field_do
    have hft := field_text
    go_wp2_with fail
    refine HT.out.mono ?_
    rintro e w1 ⟨rfl, hbel⟩
    by_cases ha1 : a1 = 1
    ·
      subst ha1
      have HOx := Lib.hid (HO.out w1 (Hb0.out.trans (hbel.mono Hb0.out.size)) r.text.2)
      have Hb1 := Lib.hid hbel
      have hld1 := HLD.out w1 (HA.out.kept hbel)
      obtain ⟨⟨z0, z1⟩, -, zl⟩ := (HY.out.kept hbel).f2
      clear hbel HT hlr0 y0 y1 hld0
      go_wp2_with fail
      refine HOx.out.mono ?_
      rintro e w2 ⟨ka, kc, rfl, -, hbel⟩
      have Hb2 := Lib.hid (Hb1.out.trans (hbel.mono Hb1.out.size))
      clear hbel HOx z0 z1 hld1
      rw [<- HD1.out]
      have hne := int_ne1 D1
      go_wp2_with fail
      go_meet
      case rel => exact ⟨by rw [HB.out]; simp, Hb2⟩
    . have h1b : (a1 == 1) = false := beq_eq_false_iff_ne.2 ha1
      have Hz := Lib.hid (show badText s r = true by rw [HB.out]; simp [ha1])
      have hne1 : (a1 != 1) = true := by simp [ha1]
      have Hb1 := Lib.hid hbel
      clear hbel HT hlr0 y0 y1 hld0
      go_wp2_with fail
      go_meet
      case rel => exact ⟨by rw [Hz.out], Hb1⟩
  ·
    have h4b : (r.text.1 == 4) = false := beq_eq_false_iff_ne.2 h4
    have Hz := Lib.hid (show badText s r = false by unfold badText; simp [h4])
    go_wp2_with fail
    go_meet
    case rel => exact ⟨by rw [Hz.out], (show Below _ _ _ from Below.refl _ _)⟩
 case rest =>
  obtain ⟨wC, rfl⟩ : ∃ wC, wC = wc := ⟨_, rfl⟩
  obtain ⟨rfl, hbx⟩ := hcut
  have HA2 := Lib.hid (HA.out.kept hbx.out)
  have HX2 := Lib.hid (HX.out.kept hbx.out)
  have Hbx := Lib.hid (Hb0.out.trans (hbx.out.mono Hb0.out.size))
  have hxl2 := HX2.out.lt
  obtain ⟨B, hB⟩ : ∃ B, B = badText s r := ⟨_, rfl⟩
  rw [<- hB] at HR ⊢
  clear hB y0 y1 yl hld0 hlr0 HT hbx HA HX HY xl
  cases B with
  | true =>
    have Hz := Lib.hid (show false = R from HR.out)
    go_wp2_with fail
    go_ret
    exact ⟨ret_bool Hz.out, Hbx.out⟩
  | false =>
    have HR2 := Lib.hid (show ((l.drop 0).all (wrapOk s r) && lastFill r) = R from HR.out)
    clear HR
    go_wp2_with fail
    go_loopg [35] l.length (fun g i wr => ∃ k : Nat, i = .int .i64 k /\ k + g = l.length /\ Hid (((l.drop k).all (wrapOk s r) && lastFill r) = R) /\ Hid (Below wC.heap.size wC wr))
    case atStart => exact ⟨0, rfl, by omega, HR2, (show Below _ _ _ from Below.refl _ _)⟩
    case round =>
     obtain ⟨k, rfl, hg, hst, hbr⟩ := hrel
     have Hbr := Lib.hid (Hbx.out.trans (hbr.out.mono Hbx.out.size))
     have hHX := HX2.out.kept hbr.out
     have hHA := HA2.out.kept hbr.out
     have hxl3 := hHX.lt
     have hlr0 := HLR.out wr hHX
     have HX3 := Lib.hid hHX; have HA3 := Lib.hid hHA
     clear hHX hHA
     by_cases hlt : k < l.length
     . have hlti : (k : Int) < l.length := by omega
       obtain ⟨b, off, rfl, hlb, hc⟩ := text_at (Hl.out wr Hbr.out) k hlt
       have Hst := Lib.hid (show (wrapOk s r l[k] && ((l.drop (k + 1)).all (wrapOk s r) && lastFill r)) = R by
        have h := hst.out
        rw [List.drop_eq_getElem_cons hlt, List.all_cons, Bool.and_assoc] at h
        exact h)
       generalize l[k] = x at hc Hst
       have HT := Lib.hid (Hr.out wr Hbr.out x)
       obtain ⟨A1, hA1⟩ : ∃ A1, A1 = actIn r x := ⟨_, rfl⟩
       rw [<- hA1] at HT
       have HW := Lib.hid (show wrapOk s r x = !(decide (A1.1 = 4) && (decide ((actIn r A1.2).1 ≠ 1) || decide ((actIn (ruleOf s A1.2) x).1 ≠ 1))) by rw [hA1]; rfl)
       obtain ⟨a1, t1⟩ := A1
       simp only at HW
       clear hA1 hst hlb
       have hfa := field_do
       go_wp2_with fail
       refine HT.out.mono ?_
       rintro e w1 ⟨rfl, hbel⟩
       have Hb1 := Lib.hid (hbr.out.trans (hbel.mono hbr.out.size))
       clear hbel HT hc hlr0
       obtain ⟨w2, hw2⟩ : ∃ w2, w2 = w1.alloc (Obj.cells #[.int .i64 a1, strV t1] 24) := ⟨_, rfl⟩
       have hb2 : Below wC.heap.size wC w2 := by rw [hw2]; exact Hb1.out.trans ((one_below w1 _).mono Hb1.out.size)
       have hY : At w2 w1.heap.size [.int .i64 a1, strV t1] 24 := by rw [hw2]; exact At.fresh w1 _ _
       have Hw2 := Lib.hid hw2; have Hb2 := Lib.hid hb2
       have hb2w := Hbx.out.trans (hb2.mono Hbx.out.size)
       have Hb2w := Lib.hid hb2w
       have HY := Lib.hid hY
       obtain ⟨⟨y0, y1⟩, -, yl⟩ := hY.f2
       have hlr0 := HLR.out w2 (HX2.out.kept hb2)
       have HT := Lib.hid (Hr.out w2 hb2w t1)
       have hxl4 := (HX2.out.kept hb2).lt
       clear hw2 hb2 hY hb2w
       go_upto_region 8 with fail
       rw [<- Hw2.out]
       clear Hw2
       go_cut [62] (fun b wx => b = .bool (!wrapOk s r x) /\ Hid (Below w2.heap.size w2 wx))
       case first =>
        by_cases h4 : a1 = 4
        ·
          subst h4
          obtain ⟨A2, hA2⟩ : ∃ A2, A2 = actIn r t1 := ⟨_, rfl⟩
          obtain ⟨Q, hQ⟩ : ∃ Q, Q = ruleOf s t1 := ⟨_, rfl⟩
          rw [<- hA2] at HT
          have HB := Lib.hid (show (!wrapOk s r x) = (decide (A2.1 ≠ 1) || decide ((actIn Q x).1 ≠ 1)) by rw [HW.out, <- hA2, <- hQ]; simp)
          have HQ := Lib.hid hQ
          have Hkq := Lib.hid (show Q.kids.length <= 100000000 by rw [hQ]; exact Hkl.out t1)
          obtain ⟨a2, t2⟩ := A2
          simp only at HB
          clear hA2 hQ
          have hft := field_text
          go_wp2_with fail
          refine HT.out.mono ?_
          rintro e w3 ⟨rfl, hbel⟩
          by_cases ha2 : a2 = 1
          . subst ha2
            have HOx := Lib.hid (HO.out w3 (Hb2w.out.trans (hbel.mono Hb2w.out.size)) t1)
            rw [<- HQ.out] at HOx
            have Hb3 := Lib.hid hbel
            have hld1 := HLD.out w3 (HA2.out.kept (Hb2.out.trans (hbel.mono Hb2.out.size)))
            obtain ⟨⟨z0, z1⟩, -, zl⟩ := (HY.out.kept hbel).f2
            clear hbel HT y0 y1 hlr0
            go_wp2_with fail
            refine HOx.out.mono ?_
            rintro e w4 ⟨ka, kc, rfl, hq, hbel⟩
            have Hb4 := Lib.hid (Hb3.out.trans (hbel.mono Hb3.out.size))
            have HTQ := Lib.hid (typed_x Q ka kc x w4 hq.row Hkq.out)
            obtain ⟨A3, hA3⟩ : ∃ A3, A3 = actIn Q x := ⟨_, rfl⟩
            rw [<- hA3] at HTQ HB
            obtain ⟨a3, t3⟩ := A3
            simp only at HB
            clear hbel HOx z0 z1 hld1 hq hA3
            go_wp2_with fail
            refine HTQ.out.mono ?_
            rintro e w5 ⟨rfl, hbel⟩
            have Hb5 := Lib.hid (Hb4.out.trans (hbel.mono Hb4.out.size))
            have hne := int_ne1 a3
            clear hbel HTQ
            go_wp2_with fail
            go_meet
            case rel => exact ⟨by rw [HB.out]; simp, Hb5⟩
          . have h1b : (a2 == 1) = false := beq_eq_false_iff_ne.2 ha2
            have Hz := Lib.hid (show (!wrapOk s r x) = true by rw [HB.out]; simp [ha2])
            have hne1 : (a2 != 1) = true := by simp [ha2]
            have Hb3 := Lib.hid hbel
            clear hbel HT y0 y1 hlr0
            go_wp2_with fail
            go_meet
            case rel => exact ⟨by rw [Hz.out], Hb3⟩
        . have h4b : (a1 == 4) = false := beq_eq_false_iff_ne.2 h4
          have Hz := Lib.hid (show (!wrapOk s r x) = false by rw [HW.out]; simp [h4])
          go_wp2_with fail
          go_meet
          case rel => exact ⟨by rw [Hz.out], (show Below _ _ _ from Below.refl _ _)⟩
       case rest =>
        obtain ⟨rfl, hby⟩ := hcut
        have Hb3 := Lib.hid (show Below wC.heap.size wC _ from Hb2.out.trans (hby.out.mono Hb2.out.size))
        obtain ⟨B, hB⟩ : ∃ B, B = wrapOk s r x := ⟨_, rfl⟩
        rw [<- hB] at Hst ⊢
        clear hB y0 y1 yl hlr0 HT hby HY HW
        cases B with
        | false =>
          have Hz := Lib.hid (show false = R from Hst.out)
          go_wp2_with fail
          go_ret
          exact ⟨ret_bool Hz.out, Hbx.out.trans (Hb3.out.mono Hbx.out.size)⟩
        | true =>
          have HN := Lib.hid (show ((l.drop (k + 1)).all (wrapOk s r) && lastFill r) = R from Hst.out)
          go_wp2_with fail
          go_roundg (l.length - (k + 1))
          case measure => omega
          case rel => exact ⟨k + 1, by go_num, by omega, HN, Hb3⟩
     . obtain rfl : k = l.length := by omega
       have Hfin := Lib.hid (show lastFill r = R by have h := hst.out; rw [List.drop_length] at h; simpa using h)
       have hnl : ¬ (l.length : Int) < l.length := by omega
       have HT := Lib.hid (Hr.out wr Hbr.out r.fillT)
       obtain ⟨⟨x0, x1, x2, x3, x4, x5, x6, x7⟩, -, xl⟩ := HX3.out.f8
       have hfa := field_do
       clear hst x0 x2 x3 x4 x5
       by_cases h1 : r.fill = 1
       . have Hz := Lib.hid (show decide (r.text.1 = 1) = R by rw [<- Hfin.out]; unfold lastFill; rw [if_pos h1])
         rw [h1] at x6
         have heq1 : (r.text.1 == 1) = decide (r.text.1 = 1) := by by_cases h : r.text.1 = 1 <;> simp [h]
         clear h1 hlr0
         go_wp2_with fail
         go_ret
         exact ⟨ret_bool (by rw [<- Hz.out]), Hbr.out⟩
       . have h1b : (r.fill == 1) = false := beq_eq_false_iff_ne.2 h1
         by_cases h2 : r.fill = 2
         . have Hz := Lib.hid (show decide ((actIn r r.fillT).1 = 1) = R by rw [<- Hfin.out]; unfold lastFill; rw [if_neg h1, if_pos h2])
           obtain ⟨A1, hA1⟩ : ∃ A1, A1 = actIn r r.fillT := ⟨_, rfl⟩
           rw [<- hA1] at HT Hz
           obtain ⟨a1, t1⟩ := A1
           simp only at Hz
           rw [h2] at x6
           have heq1 : (a1 == 1) = decide (a1 = 1) := by by_cases h : a1 = 1 <;> simp [h]
           clear h1 h1b h2 hA1
           go_wp2_with fail
           refine HT.out.mono ?_
           rintro e w1 ⟨rfl, hbel⟩
           have Hb1 := Lib.hid (Hbr.out.trans (hbel.mono Hbr.out.size))
           clear hbel HT hlr0
           go_wp2_with fail
           go_ret
           exact ⟨ret_bool (by rw [<- Hz.out]), Hb1.out⟩
         . have h2b : (r.fill == 2) = false := beq_eq_false_iff_ne.2 h2
           have Hz := Lib.hid (show true = R by rw [<- Hfin.out]; unfold lastFill; rw [if_neg h1, if_neg h2])
           clear hlr0
           go_wp2_with fail
           go_ret
           exact ⟨ret_bool Hz.out, Hbr.out⟩
end Go.Proofs.YtbommcakcmhalaaGreatDoor
/- Walks: slices.ContainsFunc over rules that are not formed; plain: which orders may be. -/
namespace Go.Proofs.YtbommcakcmhalaaGreatDoor
open Go.RowKit Go.Redl
theorem perm_sub {α : Type} [DecidableEq α] : ∀ (a l : List α), a.Nodup -> (∀ x ∈ a, x ∈ l) -> l.length <= a.length -> a.Perm l
 | [], l, _, _, hl => by
   obtain rfl : l = [] := List.eq_nil_of_length_eq_zero (by simpa using hl)
   exact List.Perm.refl _
 | x :: a, l, h, hs, hl => by
   have hx : x ∈ l := hs x (by simp)
   have hn := List.nodup_cons.1 h
   have h1 := List.length_erase_of_mem hx
   have h2 := List.length_pos_of_mem hx
   have h3 := perm_sub a (l.erase x) hn.2 (fun y hy => (List.mem_erase_of_ne (show y ≠ x from fun e => hn.1 (by rw [<- e]; exact hy))).2 (hs y (by simp [hy]))) (by simp only [List.length_cons] at hl; omega)
   exact (h3.cons x).trans (List.perm_cons_erase hx).symm
abbrev sixL : List Int := [1, 2, 3, 4, 5, 6]
theorem srt_six {l : List Int} (h : l.Perm sixL) : srtI l = sixL := by
 have tr : ∀ a b c : Int, decide (a <= b) = true -> decide (b <= c) = true -> decide (a <= c) = true := fun a b c h1 h2 => by simp only [decide_eq_true_eq] at *; omega
 have tot : ∀ a b : Int, (decide (a <= b) || decide (b <= a)) = true := fun a b => by simp only [Bool.or_eq_true, decide_eq_true_eq]; omega
 refine List.Perm.eq_of_pairwise (le := fun a b => decide (a <= b) = true) (fun a b _ _ h1 h2 => ?_) (List.pairwise_mergeSort tr tot l) (by decide) ((List.mergeSort_perm l _).trans h)
 simp only [decide_eq_true_eq] at h1 h2
 omega
theorem order_law {s : SchemaD} (h6 : s.order.length = 6) : decide (srtI s.order = sixL) = orderB s := by
 by_cases h : srtI s.order = sixL
 . rw [decide_eq_true h]
   have hp : s.order.Perm sixL := by rw [<- h]; exact (List.mergeSort_perm _ _).symm
   symm
   unfold orderB
   rw [List.all_eq_true]
   intro c hc
   rw [decide_eq_true_eq, (hp.filter _).length_eq]
   revert c
   decide
 . rw [decide_eq_false h]
   symm
   cases ho : orderB s with
   | false => rfl
   | true =>
     exfalso
     apply h
     apply srt_six
     unfold orderB at ho
     rw [List.all_eq_true] at ho
     refine (perm_sub sixL s.order (by decide) (fun c hc => ?_) (by rw [h6]; decide)).symm
     have h1 := ho c hc
     rw [decide_eq_true_eq] at h1
     have h2 : 0 < (s.order.filter (fun x => decide (x = c))).length := by omega
     obtain ⟨y, hy⟩ := List.exists_mem_of_length_pos h2
     have h3 := List.mem_filter.1 hy
     have h4 : y = c := by simpa using h3.2
     rw [<- h4]
     exact h3.1
theorem notf_ent : ∀ args w, (callFunc 48 args).run Tryz.prog w = .ok (.enter 48 args) w := by intro args w; kernel_rfl
theorem notf_c (r : RuleD) (a : Option Addr) (c : Nat) (W : World) (hr : RowA W W.heap.size 3 a r.kids.length c (pairCells r.kids)) (hw : r.wt <= 100000000) :
 Calls Tryz.prog 48 #[.agg #[strV r.type, .int .i64 r.text.1, strV r.text.2, .int .i64 r.other.1, strV r.other.2, .slice a r.kids.length c, .int .i64 r.fill, strV r.fillT]] W fun e w' => e = .returned (.bool (!formedB r)) /\ Below W.heap.size W w' := by
 obtain ⟨w0, hw0⟩ : ∃ w0, w0 = W.alloc (Obj.cells #[strV r.type, .int .i64 r.text.1, strV r.text.2, .int .i64 r.other.1, strV r.other.2, .slice a r.kids.length c, .int .i64 r.fill, strV r.fillT] 27) := ⟨_, rfl⟩
 have hb0 : Below W.heap.size W w0 := by rw [hw0]; exact one_below _ _
 have hA : At w0 W.heap.size [strV r.type, .int .i64 r.text.1, strV r.text.2, .int .i64 r.other.1, strV r.other.2, .slice a r.kids.length c, .int .i64 r.fill, strV r.fillT] 27 := by rw [hw0]; exact At.fresh W _ _
 have hlr := load_at (P := Tryz.prog) hA Tryz.underlying27 rfl (by kernel_rfl)
 simp [go_sem] at hlr
 have HC := Lib.hid (formed_c r a c w0 (hr.keep hb0 hb0.size) hw)
 have Hw0 := Lib.hid hw0; have Hb0 := Lib.hid hb0
 obtain ⟨F, hF⟩ : ∃ F, F = formedB r := ⟨_, rfl⟩
 rw [<- hF] at HC ⊢
 have xl := hA.lt
 clear hw0 hb0 hA hr hw hF
 go_enter Tryz.func48, Tryz.ntmps48
 go_upto_region 1 with fail
 rw [<- Hw0.out]
 clear Hw0
 go_wp2_with fail
 refine HC.out.mono ?_
 rintro e w1 ⟨rfl, hbel⟩
 have Hb1 := Lib.hid (Hb0.out.trans (hbel.mono Hb0.out.size))
 clear hbel HC hlr
 go_wp2_with fail
 go_ret
 exact ⟨rfl, Hb1.out⟩
theorem cf_idx (rs : List RuleD) : decide (0 <= idxP (fun k => match rs[k]? with | some r => !formedB r | none => false) rs.length) = !rs.all formedB := by
 rcases idxP_cases (fun k => match rs[k]? with | some r => !formedB r | none => false) rs.length with ⟨k, hk, h1, -, he⟩ | ⟨h1, he⟩
 . rw [he]
   simp only [List.getElem?_eq_getElem hk] at h1
   have : rs.all formedB = false := by
    rw [List.all_eq_false]
    exact ⟨rs[k], List.getElem_mem hk, by simpa using h1⟩
   rw [this]; simp
 . rw [he]
   have : rs.all formedB = true := by
    rw [List.all_eq_true]
    intro r hr
    obtain ⟨k, hk, rfl⟩ := List.mem_iff_getElem.1 hr
    have := h1 k hk
    simp only [List.getElem?_eq_getElem hk] at this
    simpa using this
   rw [this]; rfl
theorem cfrule_c (rs : List RuleD) (a : Option Addr) (c : Nat) (css : List Value) (B : Nat) (W : World) (hr : RowA W W.heap.size 8 a rs.length c css) (hc : RulesC W B rs css) (hB : B <= W.heap.size) (hn : rs.length <= 100000000) (hw : ∀ r ∈ rs, r.wt <= 100000000) :
 Calls Tryz.prog 46 #[.slice a rs.length c, .func (.func 48) #[] #[]] W fun e w' => e = .returned (.bool (!rs.all formedB)) /\ Below W.heap.size W w' := by
 have HI := Lib.hid (idx_rule rs.length a c 48 #[] (fun k => match rs[k]? with | some r => !formedB r | none => false) W hn notf_ent fun k W' hk hb => by
  obtain ⟨b, off, ra, rc, ha, -, hkr, g0, g1, g2, g3, g4, g5, g6, g7⟩ := rule8q (hr.keep hb hb.size) (RulesC.keep (hb.mono hB) (Nat.le_refl _) hc) k hk
  refine ⟨b, off, _, _, _, _, _, _, _, _, ha, g0, g1, g2, g3, g4, g5, g6, g7, ?_⟩
  simp only [List.getElem?_eq_getElem hk]
  exact notf_c rs[k] ra rc W' (hkr.keep (Below.refl _ _) (Nat.le_trans hB hb.size)) (hw _ (List.getElem_mem hk)))
 have Hd := Lib.hid (cf_idx rs)
 generalize idxP (fun k => match rs[k]? with | some r => !formedB r | none => false) rs.length = z at HI Hd
 clear hr hc hw
 go_enter Tryz.func46, Tryz.ntmps46
 go_wp2_with fail
 refine HI.out.mono ?_
 rintro e w1 ⟨rfl, hbel⟩
 have Hb := Lib.hid hbel
 clear hbel HI
 go_wp2_with fail
 go_ret
 exact ⟨ret_bool Hd.out, Hb.out⟩
end Go.Proofs.YtbommcakcmhalaaGreatDoor
/- Walk: table.Check. -/
namespace Go.Proofs.YtbommcakcmhalaaGreatDoor
open Go.RowKit Go.Redl
/-- The schema by itself; its rules by themselves; all rules by each other. -/
def chkA (s : SchemaD) : Bool := orderB s && (decide (1 <= s.cap) && decide (s.cap <= 1048576))
def chkB (s : SchemaD) : Bool := decide (s.els.type = []) && (riseB (s.rules.map (·.type)) && (allR s).all formedB)
abbrev chkR (s : SchemaD) (r : RuleD) : Bool := settledB s r && decide (0 <= depthN s r)
theorem tcheck_c (s : SchemaD) (v : Value) (W : World) (hw : s.wt <= 100000000) (hv : SchemaV W W.heap.size s v) :
 Calls Tryz.prog 11 #[v] W fun e w' => e = .returned (.int .i64 (checkS s)) /\ Below W.heap.size W w' := by
 have Hv := Lib.hid (fun (w' : World) (hb : Below W.heap.size W w') => hv.keep hb hb.size)
 have HvW := Lib.hid (fun (w' : World) (hb : Below W.heap.size W w') => hv.keep hb (Nat.le_refl _))
 obtain ⟨sa, sc, css, ea, ec, o0, o1, o2, o3, o4, o5, rfl, h1, h2, h3, h4⟩ := hv.open
 have Hwt := Lib.hid hw
 have hrl : s.rules.length <= 100000000 := by have := rulesWt_len s.rules; unfold SchemaD.wt at hw; omega
 have h1r := Lib.hid (fun (w' : World) (hb : Below W.heap.size W w') => h1.keep hb hb.size)
 have h2r := Lib.hid (fun (w' : World) (hb : Below W.heap.size W w') => RulesC.keep hb hb.size h2)
 obtain ⟨R, hR⟩ : ∃ R, R = checkS s := ⟨_, rfl⟩
 have HR := Lib.hid (show (if chkA s && chkB s && (allR s).all (chkR s) then (0 : Int) else 12) = R from hR.symm)
 have Hord := Lib.hid (show decide (srtI [o0, o1, o2, o3, o4, o5] = sixL) = orderB s by rw [<- order_law (s := s) (by rw [h4]; rfl), h4])
 rw [<- hR]
 obtain ⟨w0, hw0⟩ : ∃ w0, w0 = W.alloc (Obj.cells #[.slice sa s.rules.length sc, strV s.els.type, .int .i64 s.els.text.1, strV s.els.text.2, .int .i64 s.els.other.1, strV s.els.other.2, .slice ea s.els.kids.length ec, .int .i64 s.els.fill, strV s.els.fillT, .int .i64 o0, .int .i64 o1, .int .i64 o2, .int .i64 o3, .int .i64 o4, .int .i64 o5, .int .i64 s.cap] 30) := ⟨_, rfl⟩
 have hb0 : Below W.heap.size W w0 := by rw [hw0]; exact one_below _ _
 have hA : At w0 W.heap.size [.slice sa s.rules.length sc, strV s.els.type, .int .i64 s.els.text.1, strV s.els.text.2, .int .i64 s.els.other.1, strV s.els.other.2, .slice ea s.els.kids.length ec, .int .i64 s.els.fill, strV s.els.fillT, .int .i64 o0, .int .i64 o1, .int .i64 o2, .int .i64 o3, .int .i64 o4, .int .i64 o5, .int .i64 s.cap] 30 := by rw [hw0]; exact At.fresh W _ _
 have hld := fun (w' : World) (h : At w' W.heap.size [.slice sa s.rules.length sc, strV s.els.type, .int .i64 s.els.text.1, strV s.els.text.2, .int .i64 s.els.other.1, strV s.els.other.2, .slice ea s.els.kids.length ec, .int .i64 s.els.fill, strV s.els.fillT, .int .i64 o0, .int .i64 o1, .int .i64 o2, .int .i64 o3, .int .i64 o4, .int .i64 o5, .int .i64 s.cap] 30) => load_at (P := Tryz.prog) h Tryz.underlying30 rfl (by kernel_rfl)
 simp [go_sem] at hld
 have HLD := Lib.hid hld
 have HV := Lib.hid (values_c (some ⟨W.heap.size, 9, none⟩) 6 6 w0)
 obtain ⟨w1, hw1⟩ : ∃ w1, w1 = w0.alloc (Obj.cells #[.slice (some ⟨W.heap.size, 9, none⟩) 6 6] 36) := ⟨_, rfl⟩
 have hb1 : Below w0.heap.size w0 w1 := by rw [hw1]; exact one_below _ _
 have hA1 : At w1 W.heap.size _ _ := hA.kept hb1
 have hB1 : At w1 w0.heap.size [.slice (some ⟨W.heap.size, 9, none⟩) 6 6] 36 := by rw [hw1]; exact At.fresh w0 _ _
 have HS := Lib.hid (show Calls Tryz.prog 40 #[.func (.func 96) #[] #[.pointer (some ⟨w0.heap.size, 0, none⟩)]] w1 (fun e w' => ∃ a c, e = .returned (.slice a 6 c) /\ RowA w' w'.heap.size 1 a 6 c ((srtI [o0, o1, o2, o3, o4, o5]).map (Value.int .i64)) /\ Below w1.heap.size w1 w') from
  sorted_c w0.heap.size W.heap.size 9 6 [o0, o1, o2, o3, o4, o5] (by simp) w1 hB1.lt hA1.lt (hB1.cell 0 rfl) (fun j hj => by
   have hj6 : j < 6 := hj
   match j, hj6 with
   | 0, _ => exact hA1.cell 9 rfl
   | 1, _ => exact hA1.cell 10 rfl
   | 2, _ => exact hA1.cell 11 rfl
   | 3, _ => exact hA1.cell 12 rfl
   | 4, _ => exact hA1.cell 13 rfl
   | 5, _ => exact hA1.cell 14 rfl))
 have Hw0 := Lib.hid hw0; have Hw1 := Lib.hid hw1; have Hb0 := Lib.hid hb0; have HA := Lib.hid hA; have Hb01 := Lib.hid (hb0.trans (hb1.mono hb0.size)); have Hb1 := Lib.hid hb1
 have hel := fun (w : World) => sorted_ent
 have xl := hA.lt
 clear hv hw h1 h2 h3 h4 hR hw0 hb0 hA hld hw1 hb1 hA1 hB1
 go_enter Tryz.func11, Tryz.ntmps11
 go_upto_region 1 with fail
 rw [<- Hw0.out]
 clear Hw0
 go_wp2_with fail
 refine HV.out.mono ?_
 rintro e wx ⟨rfl, rfl⟩
 rw [<- Hw1.out]
 clear HV Hw1
 go_wp2_with fail
 refine HS.out.mono ?_
 rintro e w2 ⟨oa, oc, rfl, hrow, hbel⟩
 obtain ⟨ys, hys⟩ : ∃ ys, ys = srtI [o0, o1, o2, o3, o4, o5] := ⟨_, rfl⟩
 have hyl : ys.length = 6 := by rw [hys, List.length_mergeSort]; rfl
 rw [<- hys] at hrow Hord
 have hb2 := Hb1.out.trans (hbel.mono Hb1.out.size)
 have HA2 := Lib.hid (HA.out.kept hb2)
 have Hb2 := Lib.hid (Hb0.out.trans (hb2.mono Hb0.out.size))
 obtain ⟨w3, hw3⟩ : ∃ w3, w3 = w2.alloc (Obj.cells #[.int .i64 1, .int .i64 2, .int .i64 3, .int .i64 4, .int .i64 5, .int .i64 6] 3) := ⟨_, rfl⟩
 have hb3 : Below w2.heap.size w2 w3 := by rw [hw3]; exact one_below _ _
 have hS3 : At w3 w2.heap.size (sixL.map (Value.int .i64)) 3 := by rw [hw3]; exact At.fresh w2 _ _
 have hQ := spath_c oa (some ⟨w2.heap.size, 0, none⟩) oc 6 (w2.heap.size + 1) ys sixL w3 ((by rw [hyl]; exact hrow.keep hb3 (Nat.le_succ _))) (row_at hS3 6 1 rfl (by omega) (fun u hu => by obtain ⟨x, -, rfl⟩ := List.mem_map.1 hu; rfl))
 rw [hyl, Hord.out] at hQ
 have HQ := Lib.hid hQ
 have Hw3 := Lib.hid hw3; have Hb3 := Lib.hid hb3
 obtain ⟨E, hE⟩ : ∃ E, E = orderB s := ⟨_, rfl⟩
 have Hc := Lib.hid (show chkA s = (E && (decide (1 <= s.cap) && decide (s.cap <= 1048576))) by rw [hE]; rfl)
 rw [<- hE] at HQ
 clear hbel HS hys hyl hrow Hord hw3 hb3 hS3 hQ hE hb2 HA
 go_upto_region 2 with fail
 go_cut [24] (fun b wx => b = .bool (!chkA s) /\ Hid (Below w2.heap.size w2 wx))
 case first =>
  go_wp2_with fail
  rw [<- Hw3.out]
  clear Hw3
  refine HQ.out.mono ?_
  rintro e w4 ⟨rfl, hd⟩
  have hb4 := Hb3.out.trans ((hd.below w3.heap.size).mono Hb3.out.size)
  have x15 := (HA2.out.kept hb4).cell 15 (v := .int .i64 s.cap) rfl
  have Hb4 := Lib.hid hb4
  clear hd hb4 HQ
  cases E with
  | false =>
    have Hz := Lib.hid (show chkA s = false from Hc.out)
    go_wp2_with fail
    go_meet
    case rel => exact ⟨by rw [Hz.out]; rfl, Hb4⟩
  | true =>
    by_cases c1 : s.cap < 1
    . have Hz := Lib.hid (show chkA s = false by rw [Hc.out, decide_eq_false (show ¬ 1 <= s.cap by omega)]; rfl)
      go_wp2_with fail
      go_meet
      case rel => exact ⟨by rw [Hz.out]; rfl, Hb4⟩
    . by_cases c2 : 1048576 < s.cap
      . have Hz := Lib.hid (show chkA s = false by rw [Hc.out, decide_eq_false (show ¬ s.cap <= 1048576 by omega)]; simp)
        go_wp2_with fail
        go_meet
        case rel => exact ⟨by rw [Hz.out]; rfl, Hb4⟩
      . have Hz := Lib.hid (show chkA s = true by rw [Hc.out, decide_eq_true (show s.cap <= 1048576 by omega), decide_eq_true (show 1 <= s.cap by omega)]; rfl)
        have c1b := decide_eq_false c1
        have c2b := decide_eq_false c2
        go_wp2_with fail
        go_meet
        case rel => exact ⟨by rw [Hz.out]; first | rfl | (rw [c1b, c2b]; rfl), Hb4⟩
 case rest =>
  obtain ⟨w5, rfl⟩ : ∃ z, z = wc := ⟨_, rfl⟩
  obtain ⟨rfl, hbx⟩ := hcut
  have Hb5 := Lib.hid (Hb2.out.trans (hbx.out.mono Hb2.out.size))
  have HA5 := Lib.hid (HA2.out.kept hbx.out)
  obtain ⟨A1, hA1⟩ : ∃ A1, A1 = chkA s := ⟨_, rfl⟩
  rw [<- hA1] at HR ⊢
  clear hA1 HQ Hc hbx HA2 Hw3
  cases A1 with
  | false =>
    have Hz := Lib.hid (show (12 : Int) = R from HR.out)
    go_wp2_with fail
    go_ret
    exact ⟨ret_int Hz.out, Hb5.out⟩
  | true =>
    have HR2 := Lib.hid (show (if chkB s && (allR s).all (chkR s) then (0 : Int) else 12) = R by have h := HR.out; simpa using h)
    have x0 := HA5.out.cell 0 (v := .slice sa s.rules.length sc) rfl
    have x1 := HA5.out.cell 1 (v := strV s.els.type) rfl
    have xl5 := HA5.out.lt
    have HT := Lib.hid (typesR_c s.rules sa sc css w5 (h1r.out w5 Hb5.out) (h2r.out w5 Hb5.out) hrl)
    clear HR
    go_upto_region 4 with fail
    go_cut [40] (fun b wx => b = .bool (!chkB s) /\ Hid (Below w5.heap.size w5 wx))
    case first =>
     have Hc := Lib.hid (show chkB s = (decide (s.els.type = []) && (riseB (s.rules.map (·.type)) && (allR s).all formedB)) from rfl)
     obtain ⟨T, hT⟩ : ∃ T, T = s.els.type := ⟨_, rfl⟩
     rw [<- hT] at x1
     cases T with
     | cons t0 ts =>
       have Hz := Lib.hid (show chkB s = false by rw [Hc.out, <- hT]; rfl)
       clear hT
       go_wp2_with fail
       go_meet
       case rel => exact ⟨by rw [Hz.out]; rfl, (show Below _ _ _ from Below.refl _ _)⟩
     | nil =>
       have Hc2 := Lib.hid (show chkB s = (riseB (s.rules.map (·.type)) && (allR s).all formedB) by rw [Hc.out, <- hT]; simp)
       clear hT Hc
       go_wp2_with fail
       refine HT.out.mono ?_
       rintro e w6 ⟨rfl, hat, hbel⟩
       have hat2 : At w6 w5.heap.size ((s.rules.map (·.type)).map strV) 9 := by have h := hat; unfold ruleTypes at h; rw [List.map_map]; exact h
       have hwt := Hwt.out
       have HQ := Lib.hid (rising_at (s.rules.map (·.type)) s.rules.length _ w6 (by simp) hat2 hrl (fun t ht => by obtain ⟨r, hr, rfl⟩ := List.mem_map.1 ht; have h1 := rulesWt_mem hr; unfold SchemaD.wt at hwt; unfold RuleD.wt at h1; omega))
       have Hb6 := Lib.hid hbel
       clear hbel hat hat2 HT hwt
       obtain ⟨F, hF⟩ : ∃ F, F = riseB (s.rules.map (·.type)) := ⟨_, rfl⟩
       rw [<- hF] at HQ Hc2
       clear hF
       go_wp2_with fail
       refine HQ.out.mono ?_
       rintro e w7 ⟨rfl, hbel⟩
       have hb7 := Hb6.out.trans (hbel.mono Hb6.out.size)
       have Hb7 := Lib.hid hb7
       have hld7 := HLD.out w7 (HA5.out.kept hb7)
       have hbW := Hb5.out.trans (hb7.mono Hb5.out.size)
       have HRu := Lib.hid (rules_cB s _ W.heap.size w7 Hwt.out (HvW.out w7 hbW) hbW.size)
       have HbW := Lib.hid hbW
       clear hbel hb7 HQ x0 x1 hbW
       cases F with
       | false =>
         have Hz := Lib.hid (show chkB s = false from Hc2.out)
         go_wp2_with fail
         go_meet
         case rel => exact ⟨by rw [Hz.out]; rfl, Hb7⟩
       | true =>
         have Hz := Lib.hid (show chkB s = (allR s).all formedB by rw [Hc2.out]; rfl)
         go_wp2_with fail
         refine HRu.out.mono ?_
         rintro e w8 ⟨ra, rc, css2, rfl, hrow, hrcs, hbel⟩
         have hr1 : (allR s).length <= 100000000 := by have h1 := rulesWt_len s.rules; have h2 := Hwt.out; unfold SchemaD.wt RuleD.wt at h2; rw [all_len]; omega
         have HCF := Lib.hid (cfrule_c (allR s) ra rc css2 W.heap.size w8 hrow.row hrcs (Nat.le_trans HbW.out.size hbel.size) hr1 (fun r hr => Nat.le_trans (allR_wt hr) Hwt.out))
         have Hb8 := Lib.hid (Hb7.out.trans (hbel.mono Hb7.out.size))
         obtain ⟨rs, hrs⟩ : ∃ rs, rs = allR s := ⟨_, rfl⟩
         rw [<- hrs] at HCF Hz ⊢
         clear hrow hrcs hbel HRu hld7 hr1 hrs
         go_wp2_with fail
         refine HCF.out.mono ?_
         rintro e w9 ⟨rfl, hbel⟩
         have Hb9 := Lib.hid (Hb8.out.trans (hbel.mono Hb8.out.size))
         clear hbel HCF
         go_wp2_with fail
         go_meet
         case rel => exact ⟨by rw [Hz.out], Hb9⟩
    case rest =>
     obtain ⟨w6, rfl⟩ : ∃ z, z = wc := ⟨_, rfl⟩
     obtain ⟨rfl, hbx⟩ := hcut
     have Hb6 := Lib.hid (Hb5.out.trans (hbx.out.mono Hb5.out.size))
     have HA6 := Lib.hid (HA5.out.kept hbx.out)
     obtain ⟨B1, hB1⟩ : ∃ B1, B1 = chkB s := ⟨_, rfl⟩
     rw [<- hB1] at HR2 ⊢
     clear hB1 HT hbx HA5 x0 x1 xl5
     cases B1 with
     | false =>
       have Hz := Lib.hid (show (12 : Int) = R from HR2.out)
       go_wp2_with fail
       go_ret
       exact ⟨ret_int Hz.out, Hb6.out⟩
     | true =>
       have HR3 := Lib.hid (show (if (allR s).all (chkR s) then (0 : Int) else 12) = R by have h := HR2.out; simpa using h)
       have hld6 := HLD.out w6 HA6.out
       have xl6 := HA6.out.lt
       have HN := Lib.hid (names_c s _ w6 Hwt.out (Hv.out w6 Hb6.out))
       obtain ⟨i0, hi, hz0, hz1, hz2⟩ := info_parts info_strT
       clear HR2
       go_wp2_with fail
       refine HN.out.mono ?_
       rintro e w7 ⟨nv, out, rfl, hown, hmem, hlen, hbel⟩
       have hlw : out.length <= 100000000 := Nat.le_trans hlen Hwt.out
       have Hmem := Lib.hid hmem
       have Hb7 := Lib.hid hbel
       have hs7 := hbel.size
       clear hmem hlen hbel HN hld6
       go_upto_region 7 with (at_builtin; refine wpList_append_own _ rfl _ _ 87 rfl w6.heap.size 9 i0 (.string ⟨#[]⟩) 1 16 Tryz.underlying87 hi hz0 hz1 hz2 rfl (by decide) _ _ _ rfl (hown.alloc _) ⟨w7.heap.size, 0, none⟩ 1 1 [strV []] rfl rfl (cell_one_new _ _ _) (by simp [Value.oneCell']) (by unfold maxLen at *; omega) (by omega) (by simp; omega) ?_; intro nv2 w8 hown2 hg8 hnil8; go_frame)
       have hb8 : Below w6.heap.size w6 w8 := (Hb7.out.alloc hs7 (Obj.cells #[strV []] 9)).grown hg8 (Nat.le_trans hs7 (one_below w7 _).size) (fun j hj => (hown.lt j hj).1)
       obtain ⟨l, hl⟩ : ∃ l, l = out ++ [[]] := ⟨_, rfl⟩
       obtain ⟨na, nc, hnv, hnr⟩ : ∃ na nc, nv2 = .slice na l.length nc /\ RowA w8 w8.heap.size 1 na l.length nc (l.map strV) := by
        have h := hown2
        rw [show out.length + 1 = l.length by rw [hl]; simp, show out.map strV ++ [strV []] = l.map strV by rw [hl]; simp] at h
        exact row_of_own h (fun u hu => by obtain ⟨t, -, rfl⟩ := List.mem_map.1 hu; rfl)
       subst hnv
       have Hll := Lib.hid (show l.length <= 1000000000 by rw [hl]; simp; omega)
       have HST := Lib.hid (fun (r : RuleD) => show settledL s r l = settledB s r by rw [hl]; exact settled_by Hmem.out)
       have Hnr := Lib.hid hnr
       have Hb8 := Lib.hid (Hb6.out.trans (hb8.mono Hb6.out.size))
       have HA8 := Lib.hid (HA6.out.kept hb8)
       have hld8 := HLD.out w8 HA8.out
       have HRu := Lib.hid (rules_cB s _ W.heap.size w8 Hwt.out (HvW.out w8 Hb8.out) Hb8.out.size)
       clear hown hown2 hg8 hnil8 hb8 hl hnr hi hz0 hz1 hz2 hlw hs7 HA6 xl6
       have xl8 := HA8.out.lt
       go_wp2_with fail
       refine HRu.out.mono ?_
       rintro e w9 ⟨ra, rc, css2, rfl, hrow, hrcs, hbel⟩
       have hr1 : (allR s).length <= 100000000 := by have h1 := rulesWt_len s.rules; have h2 := Hwt.out; unfold SchemaD.wt RuleD.wt at h2; rw [all_len]; omega
       have Hb9 := Lib.hid (Hb8.out.trans (hbel.mono Hb8.out.size))
       have HA9 := Lib.hid (HA8.out.kept hbel)
       have Hn9 := Lib.hid (Hnr.out.keep hbel hbel.size)
       have Hrow := Lib.hid hrow.row; have Hrcs := Lib.hid hrcs
       obtain ⟨rs, hrs⟩ : ∃ rs, rs = allR s := ⟨_, rfl⟩
       have Hrs := Lib.hid hrs
       rw [<- hrs] at Hrow Hrcs hr1 HR3 ⊢
       clear hrow hrcs hbel HRu hld8 hrs xl8
       go_wp2_with fail
       go_loopg [48] rs.length (fun g i wr => ∃ k : Nat, i = .int .i64 k /\ k + g = rs.length /\ Hid ((if (rs.drop k).all (chkR s) then (0 : Int) else 12) = R) /\ Hid (Below w9.heap.size w9 wr))
       case atStart => exact ⟨0, rfl, by omega, HR3, (show Below _ _ _ from Below.refl _ _)⟩
       case round =>
        obtain ⟨k, rfl, hg, hst, hbr⟩ := hrel
        have Hbr := Lib.hid (Hb9.out.trans (hbr.out.mono Hb9.out.size))
        by_cases hlt : k < rs.length
        . have hlti : (k : Int) < rs.length := by omega
          obtain ⟨b, off, qa, qc, rfl, hlb, hkr, p0, p1, p2, p3, p4, p5, p6, p7⟩ := rule8q (Hrow.out.keep hbr.out hbr.out.size) (RulesC.keep (hbr.out.mono Hb9.out.size) (Nat.le_refl _) Hrcs.out) k hlt
          have Hqm := Lib.hid (show rs[k] ∈ allR s by rw [<- Hrs.out]; exact List.getElem_mem hlt)
          have Hst := Lib.hid (show (if chkR s rs[k] && (rs.drop (k + 1)).all (chkR s) then (0 : Int) else 12) = R by
           have h := hst.out
           rw [List.drop_eq_getElem_cons hlt, List.all_cons] at h
           exact h)
          generalize rs[k] = q at hkr p0 p1 p2 p3 p4 p5 p6 p7 Hqm Hst
          obtain ⟨w10, hw10⟩ : ∃ w10, w10 = wr.alloc (Obj.cells #[strV q.type, .int .i64 q.text.1, strV q.text.2, .int .i64 q.other.1, strV q.other.2, .slice qa q.kids.length qc, .int .i64 q.fill, strV q.fillT] 27) := ⟨_, rfl⟩
          have hb10 : Below wr.heap.size wr w10 := by rw [hw10]; exact one_below _ _
          have hX : At w10 wr.heap.size [strV q.type, .int .i64 q.text.1, strV q.text.2, .int .i64 q.other.1, strV q.other.2, .slice qa q.kids.length qc, .int .i64 q.fill, strV q.fillT] 27 := by rw [hw10]; exact At.fresh wr _ _
          have hlr := fun (w' : World) (h : At w' wr.heap.size [strV q.type, .int .i64 q.text.1, strV q.text.2, .int .i64 q.other.1, strV q.other.2, .slice qa q.kids.length qc, .int .i64 q.fill, strV q.fillT] 27) => load_at (P := Tryz.prog) h Tryz.underlying27 rfl (by kernel_rfl)
          simp [go_sem] at hlr
          have HLR := Lib.hid hlr
          have hb9x := hbr.out.trans (hb10.mono hbr.out.size)
          have HA10 := Lib.hid (HA9.out.kept hb9x)
          have HX10 := Lib.hid hX
          have Hw10 := Lib.hid hw10
          have Hb10 := Lib.hid hb9x
          have hbW := Hb9.out.trans (hb9x.mono Hb9.out.size)
          have HbW := Lib.hid hbW
          have hql : q.kids.length <= 100000000 := by have h1 := kids_wt q; have h2 := allR_wt Hqm.out; have h3 := Hwt.out; omega
          have Hkr := Lib.hid (fun (w' : World) (hb : Below wr.heap.size wr w') => hkr.keep (hb.mono Hbr.out.size) (Nat.le_trans Hbr.out.size hb.size))
          have hS := settled_c s _ q qa qc l na nc w10 Hwt.out (Hv.out w10 hbW) (Hkr.out w10 hb10) hql (Hn9.out.keep hb9x hb9x.size) Hll.out
          rw [HST.out q] at hS
          have HS := Lib.hid hS
          have hld10 := HLD.out w10 HA10.out
          have hlr10 := HLR.out w10 hX
          have hxl := hX.lt
          have HB10 := Lib.hid hb10
          clear hw10 hb10 hX hlr hb9x hbW hkr hlb hst hS
          go_upto_region 10 with fail
          rw [<- Hw10.out]
          clear Hw10 p0 p1 p2 p3 p4 p5 p6 p7
          obtain ⟨S1, hS1⟩ : ∃ S1, S1 = settledB s q := ⟨_, rfl⟩
          have HCk := Lib.hid (show chkR s q = (S1 && decide (0 <= depthN s q)) by rw [hS1])
          rw [<- hS1] at HS
          clear hS1
          go_wp2_with fail
          refine HS.out.mono ?_
          rintro e w11 ⟨rfl, hbel⟩
          have hb11 := Hb10.out.trans (hbel.mono Hb10.out.size)
          have HbB := Lib.hid (HB10.out.trans (hbel.mono HB10.out.size))
          have HA11 := Lib.hid (HA9.out.kept hb11)
          have HX11 := Lib.hid (HX10.out.kept hbel)
          have Hb11 := Lib.hid hb11
          have hld11 := HLD.out w11 HA11.out
          have hlr11 := HLR.out w11 HX11.out
          have Hb11W := Lib.hid (Hb9.out.trans (hb11.mono Hb9.out.size))
          have hxl11 := HX11.out.lt
          clear hbel hb11 HS hld10 hlr10 HA10 HX10 hxl
          cases S1 with
          | false =>
            have Hz := Lib.hid (show (12 : Int) = R by have h := Hst.out; rw [HCk.out] at h; exact h)
            clear Hst HCk
            go_wp2_with fail
            go_ret
            exact ⟨ret_int Hz.out, Hb11W.out⟩
          | true =>
            have HD := Lib.hid (depth_c s _ q qa qc w11 Hwt.out (Hv.out w11 Hb11W.out) Hqm.out)
            obtain ⟨d, hd⟩ : ∃ d, d = depthN s q := ⟨_, rfl⟩
            rw [<- hd] at HD HCk
            clear hd
            go_wp2_with fail
            refine HD.out.mono ?_
            rintro e w12 ⟨rfl, hbel⟩
            have Hb12 := Lib.hid (Hb11.out.trans (hbel.mono Hb11.out.size))
            clear hbel HD hld11 hlr11
            by_cases hd0 : d < 0
            . have Hz := Lib.hid (show (12 : Int) = R by have h := Hst.out; rw [HCk.out, decide_eq_false (show ¬ 0 <= d by omega)] at h; exact h)
              clear Hst HCk
              go_wp2_with fail
              go_ret
              exact ⟨ret_int Hz.out, Hb9.out.trans (Hb12.out.mono Hb9.out.size)⟩
            . have HN := Lib.hid (show (if (rs.drop (k + 1)).all (chkR s) then (0 : Int) else 12) = R by have h := Hst.out; rw [HCk.out, decide_eq_true (show 0 <= d by omega)] at h; simpa using h)
              clear Hst HCk
              go_wp2_with fail
              go_roundg (rs.length - (k + 1))
              case measure => omega
              case rel => exact ⟨k + 1, by go_num, by omega, HN, Hb12⟩
        . obtain rfl : k = rs.length := by omega
          have Hz := Lib.hid (show (0 : Int) = R by have h := hst.out; rw [List.drop_length] at h; exact h)
          clear hst
          go_wp2_with fail
          go_ret
          exact ⟨ret_int Hz.out, Hbr.out⟩
end Go.Proofs.YtbommcakcmhalaaGreatDoor
