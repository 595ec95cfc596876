/- Parts of the proof, one behind the other: RMG, RMJ, RMX. -/
import Derived.Test.YtbommcakcmhalaaGreatDoorLM25
import Derived.Test.YtbommcakcmhalaaGreatDoorLM12
import Derived.Test.YtbommcakcmhalaaGreatDoorLM5
import Derived.Deep.RegionHeld3
import Derived.Maps.RangeWalk
/- Walk: table.rules. -/
set_option linter.unusedVariables false
set_option linter.unusedSimpArgs false
set_option maxHeartbeats 8000000
set_option maxRecDepth 100000
namespace Go.Proofs.YtbommcakcmhalaaGreatDoor
open Go.RowKit Go.Redl
theorem info_ruleT : (Tryz.prog.info? 27).map (fun i => (i.zero, i.size, i.bytes)) = some (some (.agg #[.string ⟨#[]⟩, .int .i64 0, .string ⟨#[]⟩, .int .i64 0, .string ⟨#[]⟩, .slice none 0 0, .int .i64 0, .string ⟨#[]⟩]), 8, 112) := by kernel_rfl
theorem clone_rule (B n : Nat) (a : Option Addr) (cap : Nat) (cs : List Value) (w : World) (hr : RowA w B 8 a n cap cs) (hB : B <= w.heap.size) (hn : n <= 100000000) :
 Calls Tryz.prog 99 #[.slice a n cap] w (MadeRow w 27 8 n cs) := by
 have hel := fun (w : World) => Lib.run_eql_slice_nil w (P := Tryz.prog) 22 27 a n cap 0 0 Tryz.underlying22
 cases ha : a with
 | none =>
   subst ha
   obtain rfl := hr.nil rfl
   obtain rfl : n = 0 := by have := hr.le; omega
   have hcs : cs = [] := List.eq_nil_of_length_eq_zero (by simpa using hr.len)
   subst hcs
   go_enter Tryz.func99, Tryz.ntmps99
   go_wp2_with fail
   go_ret
   exact ⟨_, rfl, World.ownsRow_nil _ _ _ _, Below.refl _ _⟩
 | some ad =>
   subst ha
   go_enter Tryz.func99, Tryz.ntmps99
   go_wp2_with (at_builtin; refine wpList_app rfl _ _ 22 rfl w.heap.size 27 (.agg #[.string ⟨#[]⟩, .int .i64 0, .string ⟨#[]⟩, .int .i64 0, .string ⟨#[]⟩, .slice none 0 0, .int .i64 0, .string ⟨#[]⟩]) 8 112 Tryz.underlying22 info_ruleT rfl (by decide) _ 0 [] rfl ?hown _ n cap B cs rfl ?hr ?h63 ?hb ?hbase ?_)
   case hown => exact World.ownsRow_lit w #[] 0 (Nat.le_refl _) (Nat.zero_le _) rfl
   case hr => exact hr.keep ((Below.refl _ _).alloc hB _) (Nat.le_refl _)
   case h63 => unfold maxLen; omega
   case hb => omega
   case hbase => simp
   intro v' w1 hown hgrow
   have Ho := Lib.hid hown; have Hg := Lib.hid hgrow; clear hown hgrow hel hr
   go_wp2_with fail
   go_ret
   refine ⟨v', rfl, by simpa using Ho.out, ((Below.refl _ _).alloc (Nat.le_refl _) _).grown Hg.out (by simp) ?_⟩
   simp [Value.ownBlock]
theorem clone_rule_ent : ∀ args w, (callFunc 99 args).run Tryz.prog w = .ok (.enter 99 args) w := by intro args w; kernel_rfl
theorem RulesC.push_ {w : World} {B : Nat} {x : RuleD} {cx : List Value} (hx : RuleC w B x cx) : ∀ {rs : List RuleD} {css : List Value}, RulesC w B rs css -> RulesC w B (rs ++ [x]) (css ++ cx)
 | [], css, h => by rw [show css = [] from h]; exact ⟨cx, [], by simp, hx, rfl⟩
 | r :: rs, css, h => by
   obtain ⟨c1, c2, rfl, h2, h3⟩ := h
   exact ⟨c1, c2 ++ cx, by rw [List.append_assoc], h2, RulesC.push_ hx h3⟩
theorem row_at {w : World} {N : Nat} {cs : List Value} {T : TypeId} (h : At w N cs T) (n sz : Nat) (hl : cs.length = n * sz) (hn : n <= 100000000) (h1 : ∀ u ∈ cs, u.oneCell' = true) : RowA w (N + 1) sz (some ⟨N, 0, none⟩) n n cs :=
 ⟨hl, Nat.le_refl _, by unfold maxLen; omega, h1, (fun e => by cases e), fun _ => ⟨N, 0, rfl, by omega, fun j u hj => by rw [Nat.zero_add]; exact h.cell j hj⟩⟩
theorem At.drw {w : World} {N : Nat} {cs : List Value} {T : TypeId} (h : At w N cs T) : At w.drew N cs T := h
/-- All rules, in a row of their own. -/
abbrev AllRB (s : SchemaD) (B : Nat) (W : World) (e : Ending) (w' : World) : Prop :=
 ∃ a c css, e = .returned (.slice a (allR s).length c) /\ RowQ w' (fun b => W.heap.size <= b) 8 a (allR s).length c css /\ RulesC w' B (allR s) css /\ Below W.heap.size W w'
theorem rules_cB (s : SchemaD) (v : Value) (B : Nat) (W : World) (hw : s.wt <= 100000000) (hv : SchemaV W B s v) (hB : B <= W.heap.size) : Calls Tryz.prog 47 #[v] W (AllRB s B W) := by
 have hrl : s.rules.length <= 100000000 := by have := rulesWt_len s.rules; unfold SchemaD.wt at hw; omega
 obtain ⟨a, c, css, ea, ec, o0, o1, o2, o3, o4, o5, rfl, h1, h2, h3, -⟩ := hv.open
 obtain ⟨rs, ⟨ty, ⟨td, tt⟩, ⟨od, ot⟩, kids, fill, ft⟩, order, scap⟩ := s
 simp only at hrl h1 h2 h3 ⊢
 have HF := Lib.hid (show ∀ (w' : World) (v' : Value) (e : Ending), e = .returned v' -> w'.ownsRow W.heap.size 27 8 v' (rs.length + 1) (css ++ [strV ty, .int .i64 td, strV tt, .int .i64 od, strV ot, .slice ea kids.length ec, .int .i64 fill, strV ft]) -> Below W.heap.size W w' -> AllRB ⟨rs, ⟨ty, (td, tt), (od, ot), kids, fill, ft⟩, order, scap⟩ B W e w' from by
  rintro w' v' e rfl hown hb
  have h2' := RulesC.keep (hb.mono hB) (Nat.le_refl _) h2
  have hx : RuleC w' B ⟨ty, (td, tt), (od, ot), kids, fill, ft⟩ [strV ty, .int .i64 td, strV tt, .int .i64 od, strV ot, .slice ea kids.length ec, .int .i64 fill, strV ft] := ⟨ea, ec, rfl, h3.keep (hb.mono hB) (Nat.le_refl _)⟩
  have h4 := RulesC.push_ hx h2'
  obtain ⟨a', c', rfl, hr⟩ := rowq_own hown (h4.one)
  refine ⟨a', c', _, ?_, ?_, h4, hb⟩
  . simp
  . simpa using hr)
 obtain ⟨w0, hw0⟩ : ∃ w0, w0 = W.alloc (Obj.cells #[.slice a rs.length c, strV ty, .int .i64 td, strV tt, .int .i64 od, strV ot, .slice ea kids.length ec, .int .i64 fill, strV ft, .int .i64 o0, .int .i64 o1, .int .i64 o2, .int .i64 o3, .int .i64 o4, .int .i64 o5, .int .i64 scap] 30) := ⟨_, rfl⟩
 have hb0 : Below W.heap.size W w0 := by rw [hw0]; exact one_below _ _
 have hA : At w0 W.heap.size [.slice a rs.length c, strV ty, .int .i64 td, strV tt, .int .i64 od, strV ot, .slice ea kids.length ec, .int .i64 fill, strV ft, .int .i64 o0, .int .i64 o1, .int .i64 o2, .int .i64 o3, .int .i64 o4, .int .i64 o5, .int .i64 scap] 30 := by rw [hw0]; exact At.fresh W _ _
 have Hw0 := Lib.hid hw0
 have Hb0 := Lib.hid hb0
 have HS0 := Lib.hid (fun (w' : World) (hb : Below w0.heap.size w0 w') => have h := hA.kept hb; (⟨h.cell 0 rfl, h.cell 1 rfl, h.cell 2 rfl, h.cell 3 rfl, h.cell 4 rfl, h.cell 5 rfl, h.cell 6 rfl, h.cell 7 rfl, h.cell 8 rfl⟩ : w'.cell? ⟨W.heap.size, 0, none⟩ = some (.slice a rs.length c) /\ w'.cell? ⟨W.heap.size, 1, none⟩ = some (strV ty) /\ w'.cell? ⟨W.heap.size, 2, none⟩ = some (.int .i64 td) /\ w'.cell? ⟨W.heap.size, 3, none⟩ = some (strV tt) /\ w'.cell? ⟨W.heap.size, 4, none⟩ = some (.int .i64 od) /\ w'.cell? ⟨W.heap.size, 5, none⟩ = some (strV ot) /\ w'.cell? ⟨W.heap.size, 6, none⟩ = some (.slice ea kids.length ec) /\ w'.cell? ⟨W.heap.size, 7, none⟩ = some (.int .i64 fill) /\ w'.cell? ⟨W.heap.size, 8, none⟩ = some (strV ft)))
 have HC := Lib.hid (fun (w' : World) (hb : Below w0.heap.size w0 w') => clone_rule w'.heap.size rs.length a c css w' (h1.keep ((hb0.trans (hb.mono hb0.size)).mono hB) (Nat.le_trans hB (Nat.le_trans hb0.size hb.size))) (Nat.le_refl _) hrl)
 have HE := Lib.hid (show ∀ (u : Value), u ∈ [strV ty, .int .i64 td, strV tt, .int .i64 od, strV ot, .slice ea kids.length ec, .int .i64 fill, strV ft] -> u.oneCell' = true from fun u hu => by simp at hu; rcases hu with rfl | rfl | rfl | rfl | rfl | rfl | rfl | rfl <;> rfl)
 have Hcl := Lib.hid h1.len
 clear hv hb0 hA hw0 h1 h2 h3 hw hB
 go_enter Tryz.func47, Tryz.ntmps47
 go_upto_region 1 with fail
 rw [<- Hw0.out]
 clear Hw0
 go_region_held3 (fun w' => w'.cell? ⟨W.heap.size, 0, none⟩ = some (.slice a rs.length c) /\ w'.cell? ⟨W.heap.size, 1, none⟩ = some (strV ty) /\ w'.cell? ⟨W.heap.size, 2, none⟩ = some (.int .i64 td) /\ w'.cell? ⟨W.heap.size, 3, none⟩ = some (strV tt) /\ w'.cell? ⟨W.heap.size, 4, none⟩ = some (.int .i64 od) /\ w'.cell? ⟨W.heap.size, 5, none⟩ = some (strV ot) /\ w'.cell? ⟨W.heap.size, 6, none⟩ = some (.slice ea kids.length ec) /\ w'.cell? ⟨W.heap.size, 7, none⟩ = some (.int .i64 fill) /\ w'.cell? ⟨W.heap.size, 8, none⟩ = some (strV ft)) (refine HS0.out _ (by ((repeat (first | with_reducible exact Hb2.out | with_reducible exact Hb1.out | with_reducible exact Below.refl _ _ | with_reducible refine Below.drew ?_ | with_reducible refine Below.alloc ?_ ?_ _ | with_reducible refine Below.setCell ?_ ?_ _)) <;> (first | with_reducible exact Nat.le_refl _ | with_reducible exact Hb2.out.size | with_reducible exact Hb1.out.size | (have hsz := Hb2.out.size; simp [World.setCell]; omega) | (have hsz := Hb1.out.size; simp [World.setCell]; omega) | (simp; done) | (simp; omega) | omega))))
  (first
  | (refine step_call rfl 99 _ _ rfl clone_rule_ent [.slice a rs.length c] ?_ _ (HC.out _ (by ((repeat (first | with_reducible exact Below.refl _ _ | with_reducible refine Below.drew ?_ | with_reducible refine Below.alloc ?_ ?_ _ | with_reducible refine Below.setCell ?_ ?_ _)) <;> (first | with_reducible exact Nat.le_refl _ | (simp; done) | (simp; omega) | omega)))) ?_
     . go_simp
     rintro e w1 ⟨v1, rfl, hown, hbel⟩
     refine ⟨_, rfl, ?_⟩
     have Hb1 := Lib.hid (below_and (w0 := w0) (by ((repeat (first | with_reducible exact Below.refl _ _ | with_reducible refine Below.drew ?_ | with_reducible refine Below.alloc ?_ ?_ _ | with_reducible refine Below.setCell ?_ ?_ _)) <;> (first | with_reducible exact Nat.le_refl _ | (simp; done) | (simp; omega) | omega))) hbel)
     have Hown := Lib.hid (own_mono hown ((Below.size (w := w0) (B := w0.heap.size) (by ((repeat (first | with_reducible exact Below.refl _ _ | with_reducible refine Below.drew ?_ | with_reducible refine Below.alloc ?_ ?_ _ | with_reducible refine Below.setCell ?_ ?_ _)) <;> (first | with_reducible exact Nat.le_refl _ | (simp; done) | (simp; omega) | omega))))))
     first
      | (have h9 := At.kept (w := World.drew _) (At.drw (At.fresh _ [strV ty, .int .i64 td, strV tt, .int .i64 od, strV ot, .slice ea kids.length ec, .int .i64 fill, strV ft] 27)) hbel
         have HA9 := Lib.hid (show At w1 w0.heap.size [strV ty, .int .i64 td, strV tt, .int .i64 od, strV ot, .slice ea kids.length ec, .int .i64 fill, strV ft] 27 from h9)
         clear h9)
      | skip
     clear hown hbel)
  | (refine step_app (w := w1.alloc (Obj.cells #[strV ty, .int .i64 td, strV tt, .int .i64 od, strV ot, .slice ea kids.length ec, .int .i64 fill, strV ft] 27)) rfl _ _ _ rfl w0.heap.size 27 _ 8 112 Tryz.underlying22 info_ruleT rfl (by decide) v1 rs.length css ?_ (own_keep Hown.out (one_below w1 _)) (some ⟨w1.heap.size, 0, none⟩) 1 1 (w1.heap.size + 1) [strV ty, .int .i64 td, strV tt, .int .i64 od, strV ot, .slice ea kids.length ec, .int .i64 fill, strV ft] ?_ (row_at (At.fresh w1 [strV ty, .int .i64 td, strV tt, .int .i64 od, strV ot, .slice ea kids.length ec, .int .i64 fill, strV ft] 27) 1 8 rfl (by omega) HE.out) ?_ ?_ ?_ ?_
     . go_simp
     . go_simp
     . unfold maxLen; omega
     . omega
     . exact (Nat.le_trans Hb1.out.size (one_below w1 _).size)
     intro v2 w2 hown2 hgrow
     have Hb2 := Lib.hid ((below_and Hb1.out (one_below w1 _)).grown hgrow (Nat.le_trans Hb1.out.size (one_below w1 _).size) (fun k hk => (Hown.out.lt k hk).1))
     have HZ := Lib.hid (HF.out w2 v2 _ rfl (own_mono hown2 Hb0.out.size) (Hb0.out.trans (Hb2.out.mono Hb0.out.size)))
     clear hown2 hgrow)
  | (refine step_app (w := w1) rfl _ _ _ rfl w0.heap.size 27 _ 8 112 Tryz.underlying22 info_ruleT rfl (by decide) v1 rs.length css ?_ (Hown.out) (some ⟨w0.heap.size, 0, none⟩) 1 1 (w0.heap.size + 1) [strV ty, .int .i64 td, strV tt, .int .i64 od, strV ot, .slice ea kids.length ec, .int .i64 fill, strV ft] ?_ (row_at HA9.out 1 8 rfl (by omega) HE.out) ?_ ?_ ?_ ?_
     . go_simp
     . go_simp
     . unfold maxLen; omega
     . omega
     . exact (Hb1.out.size)
     intro v2 w2 hown2 hgrow
     have Hb2 := Lib.hid (Hb1.out.grown hgrow Hb1.out.size (fun k hk => (Hown.out.lt k hk).1))
     have HZ := Lib.hid (HF.out w2 v2 _ rfl (own_mono hown2 Hb0.out.size) (Hb0.out.trans (Hb2.out.mono Hb0.out.size)))
     clear hown2 hgrow)
 )
 all_goals
  go_wp2_with fail
  go_ret
  exact HZ.out
end Go.Proofs.YtbommcakcmhalaaGreatDoor
/- Walk: table.depth. -/
namespace Go.Proofs.YtbommcakcmhalaaGreatDoor
open Go.RowKit Go.Redl
theorem load_at {P : Program} {w : World} {N : Nat} {cs : List Value} {T : TypeId} {d : TypeDesc} (h : At w N cs T) (hu : P.underlying T = some d) (hd : d.isRow = true) (hi : (P.info? T).map (·.size) = some cs.length) : (Instr.loadAt T (.pointer (some ⟨N, 0, none⟩))).run P w = .ok (.agg cs.toArray) w :=
 run_loadAt_mid w N 0 T cs d (fun j v hj => by rw [Nat.zero_add]; exact h.cell j hj) hu hd hi
theorem SetAt.s8 {w : World} {b n N : Nat} {acc : List (List UInt8)} (h : SetAt w b n acc) (hne : b ≠ N) (d0 d1 d2 d3 d4 d5 d6 d7 : Value) :
 SetAt ((((((((w.setCell ⟨N, 0, none⟩ d0).setCell ⟨N, 1, none⟩ d1).setCell ⟨N, 2, none⟩ d2).setCell ⟨N, 3, none⟩ d3).setCell ⟨N, 4, none⟩ d4).setCell ⟨N, 5, none⟩ d5).setCell ⟨N, 6, none⟩ d6).setCell ⟨N, 7, none⟩ d7) b n acc :=
 (((((((h.setCell (a := ⟨N, 0, none⟩) hne d0).setCell (a := ⟨N, 1, none⟩) hne d1).setCell (a := ⟨N, 2, none⟩) hne d2).setCell (a := ⟨N, 3, none⟩) hne d3).setCell (a := ⟨N, 4, none⟩) hne d4).setCell (a := ⟨N, 5, none⟩) hne d5).setCell (a := ⟨N, 6, none⟩) hne d6).setCell (a := ⟨N, 7, none⟩) hne d7
theorem depth_c (s : SchemaD) (v : Value) (r : RuleD) (a : Option Addr) (c : Nat) (W : World) (hw : s.wt <= 100000000) (hv : SchemaV W W.heap.size s v) (hr : r ∈ allR s) :
 Calls Tryz.prog 52 #[v, .agg #[strV r.type, .int .i64 r.text.1, strV r.text.2, .int .i64 r.other.1, strV r.other.2, .slice a r.kids.length c, .int .i64 r.fill, strV r.fillT]] W fun e w' => e = .returned (.int .i64 (depthN s r)) /\ Below W.heap.size W w' := by
 have hrl : s.rules.length <= 100000000 := by have := rulesWt_len s.rules; unfold SchemaD.wt at hw; omega
 have Hv := Lib.hid (fun (w' : World) (hb : Below W.heap.size W w') => hv.keep hb hb.size)
 obtain ⟨sa, sc, css, ea, ec, o0, o1, o2, o3, o4, o5, rfl, -, -, -, -⟩ := hv.open
 obtain ⟨R, hR⟩ : ∃ R, R = depthN s r := ⟨_, rfl⟩
 have HR := Lib.hid (show depthF s (s.rules.length + 2) [] r 0 = R from hR.symm)
 rw [<- hR]
 have Hrr := Lib.hid hr
 obtain ⟨w0, hw0⟩ : ∃ w0, w0 = (W.alloc (Obj.cells #[.slice sa s.rules.length sc, strV s.els.type, .int .i64 s.els.text.1, strV s.els.text.2, .int .i64 s.els.other.1, strV s.els.other.2, .slice ea s.els.kids.length ec, .int .i64 s.els.fill, strV s.els.fillT, .int .i64 o0, .int .i64 o1, .int .i64 o2, .int .i64 o3, .int .i64 o4, .int .i64 o5, .int .i64 s.cap] 30)).alloc (Obj.cells #[strV r.type, .int .i64 r.text.1, strV r.text.2, .int .i64 r.other.1, strV r.other.2, .slice a r.kids.length c, .int .i64 r.fill, strV r.fillT] 27) := ⟨_, rfl⟩
 have hb0 : Below W.heap.size W w0 := by rw [hw0]; exact two_below _ _ _
 have hA : At w0 W.heap.size [.slice sa s.rules.length sc, strV s.els.type, .int .i64 s.els.text.1, strV s.els.text.2, .int .i64 s.els.other.1, strV s.els.other.2, .slice ea s.els.kids.length ec, .int .i64 s.els.fill, strV s.els.fillT, .int .i64 o0, .int .i64 o1, .int .i64 o2, .int .i64 o3, .int .i64 o4, .int .i64 o5, .int .i64 s.cap] 30 := by rw [hw0]; exact (At.fresh W _ _).alloc _
 have hX : At w0 (W.heap.size + 1) [strV r.type, .int .i64 r.text.1, strV r.text.2, .int .i64 r.other.1, strV r.other.2, .slice a r.kids.length c, .int .i64 r.fill, strV r.fillT] 27 := by rw [hw0]; exact At.second W _ _ _
 have hld := fun (w' : World) (h : At w' W.heap.size [.slice sa s.rules.length sc, strV s.els.type, .int .i64 s.els.text.1, strV s.els.text.2, .int .i64 s.els.other.1, strV s.els.other.2, .slice ea s.els.kids.length ec, .int .i64 s.els.fill, strV s.els.fillT, .int .i64 o0, .int .i64 o1, .int .i64 o2, .int .i64 o3, .int .i64 o4, .int .i64 o5, .int .i64 s.cap] 30) => load_at (P := Tryz.prog) h Tryz.underlying30 rfl (by kernel_rfl)
 simp [go_sem] at hld
 have HLD := Lib.hid hld
 have hmm := @run_makeMap Tryz.prog
 have hM0 := hX.lt
 have Hw0 := Lib.hid hw0
 have Hwt := Lib.hid hw
 obtain ⟨M, hM⟩ : ∃ M, M = w0.heap.size := ⟨_, rfl⟩
 obtain ⟨w1, hw1⟩ : ∃ w1, w1 = w0.alloc (.map #[] 0) := ⟨_, rfl⟩
 have HS1 := Lib.hid (show SetAt w1 M 0 ([] : List (List UInt8)).reverse by rw [hw1, hM]; exact SetAt.fresh w0)
 have hb1 : Below W.heap.size W w1 := by rw [hw1]; exact hb0.alloc hb0.size _
 have HA1 := Lib.hid (show At w1 W.heap.size _ _ by rw [hw1]; exact hA.alloc _)
 have HX1 := Lib.hid (show At w1 (W.heap.size + 1) _ _ by rw [hw1]; exact hX.alloc _)
 have Hb1 := Lib.hid hb1
 have Hw1 := Lib.hid hw1
 have HM := Lib.hid hM
 have hMW : W.heap.size + 1 < M := by rw [hM]; exact hM0
 clear hv hw hw0 hb0 hA hX hld hR hr hM hw1 hb1 hM0
 go_enter Tryz.func52, Tryz.ntmps52
 go_upto_region 1 with fail
 rw [<- Hw0.out]
 clear Hw0
 go_upto_region 2 with fail
 rw [<- Hw1.out, <- HM.out]
 clear Hw1 HM hmm
 go_wp2_with fail
 go_loopg [6] (s.rules.length + 2) (fun g i wr => ∃ (n : Nat) (met : List (List UInt8)) (q : RuleD) (qa : Option Addr) (qc : Nat), i = .int .i64 n /\ met.length = n /\ n + g = s.rules.length + 2 /\ Hid (met.Nodup) /\ Hid (∀ x ∈ met, x ∈ (allR s).map (·.type)) /\ Hid (q ∈ allR s) /\ Hid (depthF s g met q n = R) /\
  Hid (At wr (W.heap.size + 1) [strV q.type, .int .i64 q.text.1, strV q.text.2, .int .i64 q.other.1, strV q.other.2, .slice qa q.kids.length qc, .int .i64 q.fill, strV q.fillT] 27) /\
  Hid (At wr W.heap.size [.slice sa s.rules.length sc, strV s.els.type, .int .i64 s.els.text.1, strV s.els.text.2, .int .i64 s.els.other.1, strV s.els.other.2, .slice ea s.els.kids.length ec, .int .i64 s.els.fill, strV s.els.fillT, .int .i64 o0, .int .i64 o1, .int .i64 o2, .int .i64 o3, .int .i64 o4, .int .i64 o5, .int .i64 s.cap] 30) /\
  Hid (SetAt wr M n met.reverse) /\ Hid (Below W.heap.size W wr))
 case atStart => exact ⟨0, [], r, a, c, rfl, rfl, by omega, (show List.Nodup [] from List.nodup_nil), (show ∀ x ∈ [], _ from by simp), Hrr, HR, HX1, HA1, HS1, Hb1⟩
 case round =>
  obtain ⟨n, met, q, qa, qc, rfl, hml, hg, hnd, hin, hq, hdp, hx, ha, hs, hbr⟩ := hrel
  have hle := met_le hnd.out hin.out
  obtain ⟨g', hg'⟩ : ∃ g', gk = g' + 1 := ⟨gk - 1, by omega⟩
  have hql : q.type.length <= maxLen := by have h1 := allR_wt hq.out; have h2 := Hwt.out; unfold RuleD.wt at h1; unfold maxLen; omega
  have hdp2 := hdp.out
  rw [hg', depth_step] at hdp2
  have Hgg := Lib.hid (show n + 1 + g' = s.rules.length + 2 /\ g' < gk from by omega)
  obtain ⟨⟨x0, x1, x2, x3, x4, x5, x6, x7⟩, xf, xl⟩ := hx.out.f8
  have Hql := Lib.hid hql
  clear hdp hle hql hg'
  by_cases h0 : q.fill = 0
  . have Hz := Lib.hid (show (n : Int) = R by rw [if_pos h0] at hdp2; exact hdp2)
    rw [h0] at x6
    clear hdp2 h0
    go_wp2_with fail
    go_ret
    exact ⟨ret_int Hz.out, hbr.out⟩
  . by_cases h1 : q.fill = 1
    . have Hz := Lib.hid (show (n : Int) + 1 = R by rw [if_neg h0, if_pos h1] at hdp2; exact hdp2)
      rw [h1] at x6
      clear hdp2 h0 h1
      go_wp2_with fail
      go_ret
      exact ⟨ret_int Hz.out, hbr.out⟩
    . have h0b : (q.fill == 0) = false := beq_eq_false_iff_ne.2 h0
      have h1b : (q.fill == 1) = false := beq_eq_false_iff_ne.2 h1
      rw [if_neg h0, if_neg h1] at hdp2
      have hask := hs.out.ask q.type Hql.out
      by_cases hmem : q.type ∈ met
      . have Hz := Lib.hid (show (-1 : Int) = R by rw [if_pos hmem] at hdp2; exact hdp2)
        rw [decide_eq_true (List.mem_reverse.2 hmem)] at hask
        clear hdp2 h0 h1 hmem
        go_wp2_with fail
        go_ret
        exact ⟨ret_int Hz.out, hbr.out⟩
      . have Hdp := Lib.hid (show depthF s g' (q.type :: met) (ruleOf s q.fillT) (n + 1) = R by rw [if_neg hmem] at hdp2; exact hdp2)
        have Hmem := Lib.hid hmem
        rw [decide_eq_false (fun h => hmem (List.mem_reverse.1 h))] at hask
        clear hdp2 h0 h1 hmem
        go_upto_region 10 with fail
        go_wp2_with (at_mapUpdate; refine wpList_putS rfl _ _ _ rfl M n met.reverse q.type rfl rfl rfl hs.out ?hn Hql.out ?_)
        case hn => have h9 := Hgg.out.1; unfold maxLen; omega
        intro w2 hs2 hgrow
        have hne1 : (some M : Option Nat) ≠ some (W.heap.size + 1) := by intro e; injection e with e; omega
        have hne0 : (some M : Option Nat) ≠ some W.heap.size := by intro e; injection e with e; omega
        have HX2 := Lib.hid (hx.out.grown hgrow hne1)
        have HA2 := Lib.hid (ha.out.grown hgrow hne0)
        have HS2 := Lib.hid (show SetAt w2 M (n + 1) (q.type :: met).reverse by rw [List.reverse_cons]; exact hs2)
        have Hb2 := Lib.hid (hbr.out.grown hgrow hbr.out.size (fun k e => by cases e; omega))
        have hC := ruleOf_c s _ q.fillT w2 Hwt.out (Hv.out w2 Hb2.out)
        have HC := Lib.hid hC
        have hld := HLD.out w2 HA2.out
        clear hs2 hgrow hne1 hne0 x0 x1 x2 x3 x4 x5 x6 x7 xf hx ha hs hask hC
        obtain ⟨⟨x0, x1, x2, x3, x4, x5, x6, x7⟩, xf, xl2⟩ := HX2.out.f8
        go_wp2_with fail
        refine HC.out.mono ?_
        rintro e w3 ⟨ka, kc, rfl, -, hbel⟩
        have Hb3 := Lib.hid (Hb2.out.trans (hbel.mono Hb2.out.size))
        have HX3 := Lib.hid (HX2.out.kept hbel)
        have HA3 := Lib.hid (HA2.out.kept hbel)
        have HS3 := Lib.hid (HS2.out.kept hbel)
        clear hbel HC x0 x1 x2 x3 x4 x5 x6 x7 xf hld HX2 HA2 HS2 xl xl2
        obtain ⟨⟨x0, x1, x2, x3, x4, x5, x6, x7⟩, xf, xl⟩ := HX3.out.f8
        obtain ⟨Q, hQ⟩ : ∃ Q, Q = ruleOf s q.fillT := ⟨_, rfl⟩
        have HQ := Lib.hid hQ
        rw [<- hQ] at Hdp ⊢
        clear hQ
        go_wp2_with fail
        go_roundg g'
        case measure => exact Hgg.out.2
        case rel =>
         have h9 := Hgg.out.1
         refine ⟨n + 1, q.type :: met, Q, ka, kc, by go_num, by simp; omega, by omega, (show List.Nodup _ from List.nodup_cons.2 ⟨Hmem.out, hnd.out⟩), (show ∀ x ∈ q.type :: met, _ from fun x hx => by rcases List.mem_cons.1 hx with rfl | hx; exact List.mem_map.2 ⟨q, hq.out, rfl⟩; exact hin.out x hx), (show Q ∈ allR s by rw [HQ.out]; exact ruleOf_all s _), Hdp, (show At _ _ _ _ from HX3.out.s8 _ _ _ _ _ _ _ _), (show At _ _ _ _ from HA3.out.n8 (by omega) _ _ _ _ _ _ _ _), (show SetAt _ _ _ _ from HS3.out.s8 (by omega) _ _ _ _ _ _ _ _), (show Below _ _ _ from below_s8 Hb3.out (by omega) _ _ _ _ _ _ _ _)⟩
end Go.Proofs.YtbommcakcmhalaaGreatDoor
/- Walk: table.Names. -/
namespace Go.Proofs.YtbommcakcmhalaaGreatDoor
open Go.RowKit Go.Redl Go.Maps
/-- Block M holds just these texts, in some order. -/
def St (w : World) (M : Nat) (L : List (List UInt8)) : Prop := ∃ acc, SetAt w M L.length acc /\ ∀ x, x ∈ acc ↔ x ∈ L
theorem St.kept {w w' : World} {M : Nat} {L : List (List UInt8)} (h : St w M L) (hb : Below w.heap.size w w') : St w' M L := by
 obtain ⟨acc, h1, h2⟩ := h
 exact ⟨acc, h1.kept hb, h2⟩
theorem St.lt {w : World} {M : Nat} {L : List (List UInt8)} (h : St w M L) : M < w.heap.size := by
 obtain ⟨acc, h1, h2⟩ := h
 exact h1.lt
theorem St.drew {w : World} {M : Nat} {L : List (List UInt8)} (h : St w M L) : St w.drew M L := h
theorem St.put {w : World} {M : Nat} {L : List (List UInt8)} (h : St w M L) (hn : L.length < maxLen) (k : List UInt8) (hk : k.length <= maxLen) :
 ∃ w', (Instr.mapUpdate 153 (.map (some M)) (strV k) (.bool true)).run Tryz.prog w = .ok () w' /\ St w' M (L ++ [k]) /\ w.grownBy w' (some M) := by
 obtain ⟨acc, h1, h2⟩ := h
 obtain ⟨w', r1, r2, r3⟩ := h1.put hn k hk
 exact ⟨w', r1, ⟨acc ++ [k], by simpa using r2, fun x => by simp [h2 x]⟩, r3⟩
theorem St.same {w : World} {M : Nat} {L L' : List (List UInt8)} (h : St w M L) (hl : L.length = L'.length) (hm : ∀ x, x ∈ L ↔ x ∈ L') : St w M L' := by
 obtain ⟨acc, h1, h2⟩ := h
 exact ⟨acc, by rw [<- hl]; exact h1, fun x => (h2 x).trans (hm x)⟩
/-- A text put in, as one operation of a plain region. -/
theorem wpList_putT {ops : Array Oper} {rest : List Oper} {o : Oper} {a : Act} {w : World} {Q : Exit -> Act -> World -> Prop} (hg : o.guard = none) (m x v : Operand) (ho : o.op = .mapUpdate 153 m x v)
 (b : Nat) (L : List (List UInt8)) (k : List UInt8) (hm : a.eval m = .map (some b)) (hx : a.eval x = strV k) (hv : a.eval v = .bool true) (h : St w b L) (hn : L.length < maxLen) (hk : k.length <= maxLen)
 (hK : ∀ w', St w' b (L ++ [k]) -> w.grownBy w' (some b) -> wpList Tryz.prog ops Q rest (a.put o.dst undef) w') : wpList Tryz.prog ops Q (o :: rest) a w := by
 obtain ⟨w', hrun, r1, r2⟩ := h.put hn k hk
 refine wpList_plain hg fun K' hK' => ?_
 unfold Oper.wp
 simp [execOp, ho, hm, hx, hv, hrun, Result.andThen]
 exact hK' _ _ (hK w' r1 r2)
/-- The four names of a rule by itself. -/
abbrev fourN (r : RuleD) : List (List UInt8) := [r.type, r.text.2, r.other.2, r.fillT]
abbrev pairN (l : List PairD) : List (List UInt8) := l.flatMap fun p => [p.1, p.2.2]
theorem flat_take_succ {α : Type} {f : α -> List (List UInt8)} {l : List α} {k : Nat} (hk : k < l.length) : (l.take (k + 1)).flatMap f = (l.take k).flatMap f ++ f l[k] := by
 rw [List.take_succ_eq_append_getElem hk, List.flatMap_append]
 simp
theorem flat_prefix {α : Type} (f : α -> List (List UInt8)) (l : List α) (k : Nat) : (l.take k).flatMap f <+: l.flatMap f := by
 refine ⟨(l.drop k).flatMap f, ?_⟩
 rw [<- List.flatMap_append, List.take_append_drop]
/-- All that stays, but what block M holds. -/
theorem gb_below {B M : Nat} {w w' : World} (h : w.grownBy w' (some M)) (hB : B <= w.heap.size) (hM : B <= M) : Below B w w' := (Below.refl B w).grown h hB (fun k e => by cases e; exact hM)
theorem gb_of {w w' : World} {M : Nat} (h : Below w.heap.size w w') : w.grownBy w' (some M) := ⟨h.os, h.tape, h.output, h.size, fun k hk _ => h.block k hk⟩
theorem rowq_gb {w w' : World} {B M sz n cap : Nat} {a : Option Addr} {cs : List Value} (h : RowQ w (fun b => B <= b) sz a n cap cs) (hg : w.grownBy w' (some M)) (hM : M < B) : RowQ w' (fun b => B <= b) sz a n cap cs :=
 h.keep hg.size (fun b hb hlt => hg.block b hlt (fun e => by injection e with e; omega)) (fun b hb _ => hb)
theorem rule8q {w : World} {B B' n cap : Nat} {a : Option Addr} {rs : List RuleD} {css : List Value} (h : RowA w B' 8 a n cap css) (hr : RulesC w B rs css) (k : Nat) (hk : k < rs.length) :
 ∃ b off ra rc, a = some ⟨b, off, none⟩ /\ b < B' /\ RowA w B 3 ra rs[k].kids.length rc (pairCells rs[k].kids) /\ w.cell? ⟨b, off + k * 8, none⟩ = some (strV rs[k].type) /\ w.cell? ⟨b, off + k * 8 + 1, none⟩ = some (.int .i64 rs[k].text.1) /\
   w.cell? ⟨b, off + k * 8 + 2, none⟩ = some (strV rs[k].text.2) /\ w.cell? ⟨b, off + k * 8 + 3, none⟩ = some (.int .i64 rs[k].other.1) /\ w.cell? ⟨b, off + k * 8 + 4, none⟩ = some (strV rs[k].other.2) /\ w.cell? ⟨b, off + k * 8 + 5, none⟩ = some (.slice ra rs[k].kids.length rc) /\
   w.cell? ⟨b, off + k * 8 + 6, none⟩ = some (.int .i64 rs[k].fill) /\ w.cell? ⟨b, off + k * 8 + 7, none⟩ = some (strV rs[k].fillT) := by
 obtain ⟨cs, ⟨ra, rc, rfl, h2⟩, h3⟩ := hr.at_ k hk
 have h0 := h3 0 _ (show (ruleCells rs[k] ra rc)[0]? = some (strV rs[k].type) from rfl)
 obtain ⟨b, off, ha, hb, hc⟩ := h.some_ (by rintro rfl; simp at h0)
 have h4 : ∀ j u, (ruleCells rs[k] ra rc)[j]? = some u -> w.cell? ⟨b, off + k * 8 + j, none⟩ = some u := fun j u hj => by
  have := hc _ u (h3 j u hj)
  rwa [<- Nat.add_assoc] at this
 exact ⟨b, off, ra, rc, ha, hb, h2, h4 0 _ rfl, h4 1 _ rfl, h4 2 _ rfl, h4 3 _ rfl, h4 4 _ rfl, h4 5 _ rfl, h4 6 _ rfl, h4 7 _ rfl⟩
theorem pairN_take {l : List PairD} {j : Nat} (h : j < l.length) : pairN (l.take (j + 1)) = pairN (l.take j) ++ [l[j].1, l[j].2.2] := flat_take_succ h
/-- A bool, wrapped. -/
structure BoolX where
 b : Bool
abbrev boolX (c : BoolX) : Value := .bool c.b
theorem plainB_inv {v : Value} {y : DataW Unit × List MemPlace} (h : plainElem (H := Unit) Tryz.prog 4 v = some y) : ∃ c : BoolX, v = boolX c := by
 unfold plainElem at h
 rw [Tryz.underlying4] at h
 cases v with
 | bool b => exact ⟨⟨b⟩, rfl⟩
 | _ => cases h
abbrev fullL (l : List (List UInt8)) : List (List UInt8) := l.filter fun x => decide (x ≠ [])
theorem full_len (l : List (List UInt8)) : (fullL l).length <= l.length := List.length_filter_le _ _
/-- Names handed back: all that rules hold but the empty one, in a row of their own. -/
abbrev NamesP (s : SchemaD) (W : World) (e : Ending) (w' : World) : Prop :=
 ∃ (v : Value) (out : List (List UInt8)), e = .returned v /\ w'.ownsRow W.heap.size 9 1 v out.length (out.map strV) /\ (∀ x, x ∈ out ↔ x ∈ flatN s /\ x ≠ []) /\ out.length <= s.wt /\ Below W.heap.size W w'
theorem names_c (s : SchemaD) (v : Value) (W : World) (hw : s.wt <= 100000000) (hv : SchemaV W W.heap.size s v) : Calls Tryz.prog 50 #[v] W (NamesP s W) := by
 have Hv := Lib.hid (fun (w' : World) (hb : Below W.heap.size W w') => hv.keep hb hb.size)
 obtain ⟨sa, sc, css, ea, ec, o0, o1, o2, o3, o4, o5, rfl, -, -, -, -⟩ := hv.open
 have Hwt := Lib.hid hw
 have hfl := flat_len s
 have hfl2 : (flatN s).length <= 100000000 := Nat.le_trans hfl hw
 have Hfl := Lib.hid hfl2
 obtain ⟨w0, hw0⟩ : ∃ w0, w0 = W.alloc (Obj.cells #[.slice sa s.rules.length sc, strV s.els.type, .int .i64 s.els.text.1, strV s.els.text.2, .int .i64 s.els.other.1, strV s.els.other.2, .slice ea s.els.kids.length ec, .int .i64 s.els.fill, strV s.els.fillT, .int .i64 o0, .int .i64 o1, .int .i64 o2, .int .i64 o3, .int .i64 o4, .int .i64 o5, .int .i64 s.cap] 30) := ⟨_, rfl⟩
 have hb0 : Below W.heap.size W w0 := by rw [hw0]; exact one_below _ _
 have hA : At w0 W.heap.size [.slice sa s.rules.length sc, strV s.els.type, .int .i64 s.els.text.1, strV s.els.text.2, .int .i64 s.els.other.1, strV s.els.other.2, .slice ea s.els.kids.length ec, .int .i64 s.els.fill, strV s.els.fillT, .int .i64 o0, .int .i64 o1, .int .i64 o2, .int .i64 o3, .int .i64 o4, .int .i64 o5, .int .i64 s.cap] 30 := by rw [hw0]; exact At.fresh W _ _
 have hM0 := hA.lt
 obtain ⟨M, hM⟩ : ∃ M, M = w0.heap.size := ⟨_, rfl⟩
 obtain ⟨w1, hw1⟩ : ∃ w1, w1 = w0.alloc (.map #[] 0) := ⟨_, rfl⟩
 have hmm := @run_makeMap Tryz.prog
 have hb1 : Below W.heap.size W w1 := by rw [hw1]; exact hb0.alloc hb0.size _
 have HS1 := Lib.hid (show St w1 M [] by rw [hw1, hM]; exact ⟨[], SetAt.fresh w0, fun x => Iff.rfl⟩)
 have hld := load_at (P := Tryz.prog) (show At w1 W.heap.size _ _ by rw [hw1]; exact hA.alloc _) Tryz.underlying30 rfl (by kernel_rfl)
 simp [go_sem] at hld
 have HC := Lib.hid (rules_cB s _ W.heap.size w1 hw (hv.keep hb1 (Nat.le_refl _)) hb1.size)
 have Hw0 := Lib.hid hw0; have Hw1 := Lib.hid hw1; have Hb1 := Lib.hid hb1
 have hMW : W.heap.size < M := by rw [hM]; exact hM0
 have HM1 := Lib.hid (show M < w1.heap.size by rw [hw1, hM]; simp)
 have HM := Lib.hid hM
 have h3w : (s.rules.length + 1) * 1 <= 100000000 * 1 := by have := rulesWt_len s.rules; unfold SchemaD.wt RuleD.wt at hw; omega
 have hrl1 : (allR s).length <= 100000000 := by rw [all_len]; omega
 clear hv hw hfl hfl2 hw0 hb0 hA hM hw1 hb1 hM0 h3w
 go_enter Tryz.func50, Tryz.ntmps50
 go_upto_region 1 with fail
 rw [<- Hw0.out]
 clear Hw0
 go_upto_region 2 with fail
 rw [<- Hw1.out, <- HM.out]
 clear Hw1 HM hmm
 go_wp2_with fail
 refine HC.out.mono ?_
 rintro e w2 ⟨ra, rc, css2, rfl, hrow, hrcs, hbel⟩
 have HS2 := Lib.hid (HS1.out.kept hbel)
 have Hb2 := Lib.hid (Hb1.out.trans (hbel.mono Hb1.out.size))
 have Hrow := Lib.hid hrow; have Hrcs := Lib.hid hrcs; have Hs12 := Lib.hid hbel.size
 obtain ⟨rs, hrs⟩ : ∃ rs, rs = allR s := ⟨_, rfl⟩
 have Hrs := Lib.hid hrs
 rw [<- hrs] at Hrow Hrcs hrl1 ⊢
 clear hrow hrcs hbel HC HS1 hld hrs
 go_wp2_with fail
 go_loopg [16] rs.length (fun g i wr => ∃ k : Nat, i = .int .i64 k /\ k + g = rs.length /\ Hid (St wr M ((rs.take k).flatMap ruleNames)) /\ Hid (w2.grownBy wr (some M)))
 case atStart => exact ⟨0, rfl, by omega, (show St w2 M ((rs.take 0).flatMap ruleNames) from HS2.out), (show World.grownBy _ _ _ from World.grownBy.refl _ _)⟩
 case round =>
  obtain ⟨k, rfl, hg, hst, hbr⟩ := hrel
  obtain ⟨wR, rfl⟩ : ∃ z, z = wr := ⟨_, rfl⟩
  obtain ⟨G, rfl⟩ : ∃ z, z = gk := ⟨_, rfl⟩
  have Hbr := Lib.hid (show Below W.heap.size W wR from Hb2.out.trans (gb_below hbr.out Hb2.out.size (by omega)))
  have HrowR := Lib.hid (rowq_gb Hrow.out hbr.out HM1.out)
  have HrcsR := Lib.hid (RulesC.keep (gb_below hbr.out (Nat.le_trans Hb1.out.size Hs12.out) (by omega)) (Nat.le_refl _) Hrcs.out)
  by_cases hlt : k < rs.length
  ·
    have hlti : (k : Int) < rs.length := by omega
    obtain ⟨b, off, qa, qc, rfl, hlb, hkr, p0, p1, p2, p3, p4, p5, p6, p7⟩ := rule8q HrowR.out.row HrcsR.out k hlt
    have Hts := Lib.hid (flat_take_succ (f := ruleNames) hlt)
    have Hpre := Lib.hid (show (rs.take k).flatMap ruleNames ++ ruleNames rs[k] <+: flatN s by rw [<- Hts.out, Hrs.out]; exact flat_prefix ruleNames _ _)
    generalize rs[k] = q at hkr p0 p1 p2 p3 p4 p5 p6 p7 Hts Hpre
    obtain ⟨PRE, hPRE⟩ : ∃ PRE, PRE = (rs.take k).flatMap ruleNames := ⟨_, rfl⟩
    rw [<- hPRE] at hst Hts Hpre
    have HPRE := Lib.hid hPRE
    have Hkr := Lib.hid hkr
    obtain ⟨w3, hw3⟩ : ∃ w3, w3 = wR.alloc (Obj.cells #[strV q.type, .int .i64 q.text.1, strV q.text.2, .int .i64 q.other.1, strV q.other.2, .slice qa q.kids.length qc, .int .i64 q.fill, strV q.fillT] 27) := ⟨_, rfl⟩
    obtain ⟨w4, hw4⟩ : ∃ w4, w4 = w3.alloc (Obj.cells #[strV q.type, strV q.text.2, strV q.other.2, strV q.fillT] 9) := ⟨_, rfl⟩
    have hX3 : At w3 wR.heap.size [strV q.type, .int .i64 q.text.1, strV q.text.2, .int .i64 q.other.1, strV q.other.2, .slice qa q.kids.length qc, .int .i64 q.fill, strV q.fillT] 27 := by rw [hw3]; exact At.fresh wR _ _
    have hb3 : Below wR.heap.size wR w3 := by rw [hw3]; exact one_below _ _
    have hb4 : Below wR.heap.size wR w4 := by rw [hw4]; exact hb3.trans ((one_below w3 _).mono hb3.size)
    have HX4 := Lib.hid (show At w4 wR.heap.size [strV q.type, .int .i64 q.text.1, strV q.text.2, .int .i64 q.other.1, strV q.other.2, .slice qa q.kids.length qc, .int .i64 q.fill, strV q.fillT] 27 by rw [hw4]; exact hX3.alloc _)
    have HY4 := Lib.hid (show At w4 w3.heap.size ((fourN q).map strV) 9 by rw [hw4]; exact At.fresh w3 _ _)
    have Hb4 := Lib.hid hb4
    have Hw3 := Lib.hid hw3; have Hw4 := Lib.hid hw4
    have HS4 := Lib.hid (hst.out.kept hb4)
    have HMR := Lib.hid (show M < wR.heap.size from hst.out.lt)
    have hM3 : wR.heap.size < w3.heap.size := hX3.lt
    obtain ⟨⟨x0, x1, x2, x3, x4, x5, x6, x7⟩, -, xl⟩ := hX3.f8
    clear hw3 hw4 hX3 hb3 hb4 hlb hkr hPRE hst
    go_upto_region 5 with fail
    rw [<- Hw3.out]
    clear Hw3 p0 p1 p2 p3 p4 p5 p6 p7
    go_wp2_with fail
    rw [<- Hw4.out]
    clear Hw4 x0 x1 x2 x3 x4 x5 x6 x7
    go_loopg [32] 4 (fun g i wx => ∃ j : Nat, i = .int .i64 j /\ j + g = 4 /\ Hid (St wx M (PRE ++ (fourN q).take j)) /\ Hid (w4.grownBy wx (some M)))
    case atStart => exact ⟨0, rfl, by omega, (show St w4 M (PRE ++ (fourN q).take 0) by simpa using HS4.out), (show World.grownBy _ _ _ from World.grownBy.refl _ _)⟩
    case round =>
     obtain ⟨j, rfl, hg2, hst, hbw⟩ := hrel
     obtain ⟨wI, rfl⟩ : ∃ z, z = wr := ⟨_, rfl⟩
     have HXI := Lib.hid (HX4.out.grown hbw.out (by intro e; injection e with e; have := HMR.out; omega))
     have hYI := HY4.out.grown hbw.out (by intro e; injection e with e; have := HMR.out; omega)
     have hfour : (fourN q).length = 4 := rfl
     by_cases hj : j < 4
     . have hji : (j : Int) < 4 := by omega
       have hjf : j < (fourN q).length := hj
       have hc := hYI.cell j (v := strV (fourN q)[j]) (by rw [List.getElem?_map, List.getElem?_eq_getElem hjf]; rfl)
       have Hts2 := Lib.hid (List.take_succ_eq_append_getElem hjf)
       have Hin := Lib.hid (show (fourN q)[j].length <= maxLen /\ (PRE ++ (fourN q).take j).length < maxLen from by
        have h1 : (fourN q)[j] ∈ flatN s := Hpre.out.subset (List.mem_append_right _ (List.mem_append_left _ (List.getElem_mem hjf)))
        have h2 := flat_wt h1
        have h3 := Hwt.out
        have h4 := Hpre.out.length_le
        have h5 : (ruleNames q).length = 4 + (pairN q.kids).length := by simp [ruleNames, pairN]; omega
        have h6 := Hfl.out
        simp only [List.length_append, List.length_take, hfour] at h4 ⊢
        unfold maxLen
        refine ⟨by omega, by omega⟩)
       generalize (fourN q)[j] = t at hc Hts2 Hin
       clear hYI hjf hfour
       go_wp2_with (at_mapUpdate; refine wpList_putT rfl _ _ _ rfl M (PRE ++ (fourN q).take j) t rfl rfl rfl hst.out ?hn ?hk ?_)
       case hn => exact Hin.out.2
       case hk => exact Hin.out.1
       intro w5 hs5 hg5
       have HS5 := Lib.hid (show St w5 M (PRE ++ (fourN q).take (j + 1)) by rw [Hts2.out]; exact hs5)
       have HG5 := Lib.hid (grownBy_trans hbw.out hg5)
       clear hs5 hg5 hc
       go_wp2_with fail
       go_roundg (4 - (j + 1))
       case measure => omega
       case rel => exact ⟨j + 1, by go_num, by omega, HS5, HG5⟩
     . obtain rfl : j = 4 := by omega
       have HS5 := Lib.hid (show St wI M (PRE ++ fourN q ++ pairN (q.kids.take 0)) by have h := hst.out; rw [show (fourN q).take 4 = fourN q from rfl] at h; simpa [pairN] using h)
       obtain ⟨⟨x0, x1, x2, x3, x4, x5, x6, x7⟩, -, xl⟩ := HXI.out.f8
       have HbI := Lib.hid (show Below W.heap.size W wI from (Hbr.out.trans (Hb4.out.mono Hbr.out.size)).trans (gb_below hbw.out (Nat.le_trans Hbr.out.size Hb4.out.size) (by omega)))
       have HGI := Lib.hid (show w2.grownBy wI (some M) from grownBy_trans hbr.out (grownBy_trans (gb_of Hb4.out) hbw.out))
       have hqk : q.kids.length <= 100000000 := by
        have h4 := Hpre.out.length_le
        have h5 : (ruleNames q).length = 4 + 2 * q.kids.length := by
         unfold ruleNames
         rw [List.length_append, show (q.kids.flatMap (fun p => [p.1, p.2.2])).length = 2 * q.kids.length from by
          generalize q.kids = l
          induction l with
          | nil => rfl
          | cons p l ih => rw [List.flatMap_cons, List.length_append, ih]; simp; omega]
         rfl
        have h6 := Hfl.out
        rw [List.length_append] at h4
        omega
       have HGR := Lib.hid (show wR.grownBy wI (some M) from grownBy_trans (gb_of Hb4.out) hbw.out)
       clear hst hYI hfour x0 x1 x2 x3 x4 x6 x7
       go_wp2_with fail
       go_loopg [42] q.kids.length (fun g i wx => ∃ j : Nat, i = .int .i64 j /\ j + g = q.kids.length /\ Hid (St wx M (PRE ++ fourN q ++ pairN (q.kids.take j))) /\ Hid (wI.grownBy wx (some M)))
       case atStart => exact ⟨0, rfl, by omega, HS5, (show World.grownBy _ _ _ from World.grownBy.refl _ _)⟩
       case round =>
        obtain ⟨j, rfl, hg3, hst, hbk⟩ := hrel
        obtain ⟨wJ, rfl⟩ : ∃ z, z = wr := ⟨_, rfl⟩
        have HGJ := Lib.hid (grownBy_trans HGI.out hbk.out)
        by_cases hj : j < q.kids.length
        . have hji : (j : Int) < q.kids.length := by omega
          have HbRJ := gb_below (grownBy_trans HGR.out hbk.out) Hbr.out.size (Nat.le_of_lt hMW)
          obtain ⟨pb, po, rfl, hpb, c0, c1, c2⟩ := (Hkr.out.keep HbRJ (Nat.le_refl _)).pair_at j hj
          have Hts3 := Lib.hid (pairN_take hj)
          have Hin := Lib.hid (show (q.kids[j].1.length <= maxLen /\ q.kids[j].2.2.length <= maxLen) /\ (PRE ++ fourN q ++ pairN (q.kids.take j)).length + 1 < maxLen from by
           have hm1 : q.kids[j].1 ∈ flatN s := Hpre.out.subset (List.mem_append_right _ (List.mem_append_right _ (List.mem_flatMap.2 ⟨_, List.getElem_mem hj, by simp⟩)))
           have hm2 : q.kids[j].2.2 ∈ flatN s := Hpre.out.subset (List.mem_append_right _ (List.mem_append_right _ (List.mem_flatMap.2 ⟨_, List.getElem_mem hj, by simp⟩)))
           have h1 := flat_wt hm1
           have h2 := flat_wt hm2
           have h3 := Hwt.out
           have h4 := Hpre.out.length_le
           have h5 : (ruleNames q).length = 4 + (pairN q.kids).length := by simp [ruleNames, pairN]; omega
           have h6 := Hfl.out
           have h7 : (pairN (q.kids.take j)).length <= (pairN q.kids).length := (flat_prefix (fun p : PairD => [p.1, p.2.2]) q.kids j).length_le
           have h8 : (fourN q).length = 4 := rfl
           rw [List.length_append, h5] at h4
           rw [List.length_append, List.length_append, h8]
           unfold maxLen
           exact ⟨⟨by omega, by omega⟩, by omega⟩)
          generalize q.kids[j] = p at c0 c1 c2 Hts3 Hin
          obtain ⟨p0, p1, p2⟩ := p
          simp only at c0 c1 c2 Hin
          obtain ⟨w6, hw6⟩ : ∃ w6, w6 = wJ.alloc (Obj.cells #[strV p0, .int .i64 p1, strV p2] 143) := ⟨_, rfl⟩
          have hb6 : Below wJ.heap.size wJ w6 := by rw [hw6]; exact one_below _ _
          have hX6 : At w6 wJ.heap.size [strV p0, .int .i64 p1, strV p2] 143 := by rw [hw6]; exact At.fresh wJ _ _
          have HMJ := Lib.hid (show M < wJ.heap.size from hst.out.lt)
          obtain ⟨L, hL⟩ : ∃ L, L = PRE ++ fourN q ++ pairN (q.kids.take j) := ⟨_, rfl⟩
          have hs6 : St w6 M L := by rw [hL]; exact hst.out.kept hb6
          have HL := Lib.hid hL
          have hin := Hin.out
          rw [<- hL] at hin
          have hne6 : (some M : Option Nat) ≠ some wJ.heap.size := by intro e; injection e with e; have := HMJ.out; omega
          obtain ⟨wa, ea, sa, ga⟩ := hs6.drew.put (by omega) p0 hin.1.1
          obtain ⟨wab, eab, sab, gab⟩ := sa.put (by simp; omega) p2 hin.1.2
          obtain ⟨wb, eb, sb, gb⟩ := hs6.drew.put (by omega) p2 hin.1.2
          obtain ⟨wba, eba, sba, gba⟩ := sb.put (by simp; omega) p0 hin.1.1
          have X6 := Lib.hid hX6.f3.1
          have XA := Lib.hid (At.grown (w := w6.drew) hX6 ga hne6).f3.1
          have XB := Lib.hid (At.grown (w := w6.drew) hX6 gb hne6).f3.1
          have XAB := Lib.hid ((At.grown (w := w6.drew) hX6 ga hne6).grown gab hne6).f3.1
          have XBA := Lib.hid ((At.grown (w := w6.drew) hX6 gb hne6).grown gba hne6).f3.1
          have HGa := Lib.hid (show wI.grownBy wab (some M) from grownBy_trans hbk.out (grownBy_trans (gb_of hb6) (grownBy_trans (show w6.grownBy wa (some M) from ⟨ga.os, ga.tape, ga.output, ga.size, ga.block⟩) gab)))
          have HGb := Lib.hid (show wI.grownBy wba (some M) from grownBy_trans hbk.out (grownBy_trans (gb_of hb6) (grownBy_trans (show w6.grownBy wb (some M) from ⟨gb.os, gb.tape, gb.output, gb.size, gb.block⟩) gba)))
          have HSa := Lib.hid (show St wab M (PRE ++ fourN q ++ pairN (q.kids.take (j + 1))) from sab.same (by rw [Hts3.out, hL]; simp) (fun x => by rw [Hts3.out, hL]; simp [or_assoc]))
          have HSb := Lib.hid (show St wba M (PRE ++ fourN q ++ pairN (q.kids.take (j + 1))) from sba.same (by rw [Hts3.out, hL]; simp) (fun x => by rw [Hts3.out, hL]; simp [or_assoc, or_comm, or_left_comm]))
          have Hw6 := Lib.hid hw6
          clear hw6 hX6 hb6 hs6 hL hin hne6 hpb hst sa sb ga gb gab gba sab sba
          go_upto_region 13 with fail
          rw [<- Hw6.out]
          clear Hw6 c0 c1 c2
          go_region_held3 (fun w' => w'.cell? ⟨wJ.heap.size, 0, none⟩ = some (strV p0) /\ w'.cell? ⟨wJ.heap.size, 1, none⟩ = some (.int .i64 p1) /\ w'.cell? ⟨wJ.heap.size, 2, none⟩ = some (strV p2)) (first | exact X6.out | exact XA.out | exact XB.out | exact XAB.out | exact XBA.out)
           (fail)
          all_goals
           go_wp2_with fail
           go_roundg (q.kids.length - (j + 1))
           case measure => omega
           case rel => first | exact ⟨j + 1, by go_num, by omega, HSa, HGa⟩ | exact ⟨j + 1, by go_num, by omega, HSb, HGb⟩
        . obtain rfl : j = q.kids.length := by omega
          have HSF := Lib.hid (show St wJ M ((rs.take (k + 1)).flatMap ruleNames) by
           have h := hst.out
           rw [List.take_length] at h
           rw [Hts.out]
           unfold ruleNames
           simpa [pairN] using h)
          clear hst
          go_wp2_with fail
          go_roundg (rs.length - (k + 1))
          case measure => omega
          case rel => exact ⟨k + 1, by go_num, by omega, HSF, HGJ⟩
  . obtain rfl : k = rs.length := by omega
    obtain ⟨acc, hset, hmem⟩ := (show St wR M (flatN s) by have h := hst.out; rw [List.take_length, Hrs.out] at h; exact h)
    obtain ⟨N0, hN0⟩ : ∃ N0, N0 = (flatN s).length := ⟨_, rfl⟩
    have hsz := World.ownsMap.size_le hset
    rw [<- hN0] at hset hsz
    have HN0 := Lib.hid (show N0 <= 100000000 /\ N0 <= s.wt by rw [hN0]; exact ⟨Hfl.out, flat_len s⟩)
    have Hmem := Lib.hid hmem
    have Hsz := Lib.hid hsz
    obtain ⟨D0, hD0⟩ : ∃ D0, D0 = setS acc := ⟨_, rfl⟩
    have hown : wR.ownsMap Tryz.prog 9 (plainElem (H := Unit) Tryz.prog 4) M N0 D0 := by rw [hD0]; exact hset
    rw [<- hD0] at Hsz
    have HD0 := Lib.hid hD0
    have hMR := hset.lt
    obtain ⟨i0, hi, hz0, hz1, hz2⟩ := info_parts info_strT
    clear hst hset hmem hsz hN0 hD0
    go_wp2_with (first
     | (at_range; refine wpList_range_own _ rfl _ 153 rfl 9 4 strLaw Tryz.underlying153 _ M N0 _ rfl hown ?_; intro w7 hrg0 hg0 hs0)
     | go_in)
    go_frame
    go_loopw [10] (fun u wr => ∃ (v : Value) (left : Lit -> Bool) (cnt : Nat) (ss : List (List UInt8)), v = u /\ wr.ranges Tryz.prog 9 (plainElem (H := Unit) Tryz.prog 4) M wR.heap.size N0 D0 left cnt /\ ss.length + cnt <= Maps.size D0 /\
     wr.ownsRow wR.heap.size 9 1 v (fullL ss).length ((fullL ss).map strV) /\ Collected D0 left ss /\ Below wR.heap.size wR wr)
     (fun _ wr => wr.rangeLeft M wR.heap.size)
    case atStart =>
     exact ⟨_, _, _, [], rfl, hrg0, by simp, World.ownsRow_nil _ _ _ _, Collected.start D0, (Below.refl _ _).grown hg0 (Nat.le_refl _) (fun j hj => by cases hj)⟩
    case round =>
     obtain ⟨v, left, cnt, ss, rfl, hrg, hcs, hrow, hC, hnx⟩ := hrel
     go_wp2_with (first
      | (at_next; refine wpList_next_ranges _ rfl _ rfl 9 strLaw (plainElem (H := Unit) Tryz.prog 4) encStr boolX (fun key kl hk => by obtain ⟨x, hx, _⟩ := Maps.keyOf_str Tryz.underlying9 hk; exact ⟨x, hx⟩) (fun v y hv => plainB_inv hv) M wR.heap.size N0 _ _ _ rfl hrg ?_ ?_)
      | go_in)
     ·
       intro hc0 hl0
       have hlen : (fullL ss).length <= s.wt /\ (fullL ss).length <= 100000000 := by have h1 := full_len ss; have h2 := HN0.out; have h3 := Hsz.out; constructor <;> omega
       have HC := Lib.hid (sortS_c (fullL ss) v wR.heap.size wr hrow hlen.2)
       have Hmm := Lib.hid (show ∀ x, x ∈ srtS (fullL ss) ↔ x ∈ flatN s /\ x ≠ [] from fun x => by
        rw [List.mem_mergeSort, List.mem_filter, hC.2 x, hl0, HD0.out, setS_has, <- Hmem.out x]
        simp)
       have Hlen := Lib.hid hlen
       have Hrow := Lib.hid hrow
       have Hnx := Lib.hid hnx
       have HSE := sortS_ent
       clear hrow hnx hC hlen hrg hcs hown hc0 hl0
       go_wp2_with fail
       refine HC.out.mono ?_
       rintro e w8 ⟨rfl, hown2, hgrow⟩
       have Ho2 := Lib.hid hown2
       have Hb8 := Lib.hid (Hnx.out.grown hgrow Hnx.out.size (fun k hk => (Hrow.out.lt k hk).1))
       clear hown2 hgrow HC
       go_wp2_with fail
       go_ret
       refine ⟨v, srtS (fullL ss), rfl, ?_, Hmm.out, by rw [List.length_mergeSort]; exact Hlen.out.1, Hbr.out.trans (Hb8.out.mono Hbr.out.size)⟩
       rw [List.length_mergeSort]
       exact own_mono Ho2.out Hbr.out.size
     ·
       intro x c kl yd yp w8 cnt2 hkey hlk hv hat hrg2 hlt hg2 hs2 hen
       obtain ⟨x', ex, rfl, hxl⟩ := Maps.keyOf_str Tryz.underlying9 hkey
       obtain rfl : x = x' := encStr_inj ex
       have hrow2 := hrow.kept hg2 (Or.inr (row_ne_iter hrow hrg).symm)
       have hnx2 := hnx.grown hg2 hnx.size (fun j hj => by cases hj; exact Nat.le_refl _)
       have hC2 := hC.step hlk hat
       have hlt2 : cnt2 < wr.rangeLeft M wR.heap.size := by rw [hrg.left_eq]; exact hlt
       have hfl := full_len ss
       have hN := HN0.out.1
       have hsz := Hsz.out
       have Hrg2 := Lib.hid hrg2; have Hnx2 := Lib.hid hnx2; have HC2 := Lib.hid hC2; have Hcs2 := Lib.hid (show (ss ++ [x]).length + cnt2 <= Maps.size D0 by simp; omega)
       have Hlt2 := Lib.hid hlt2
       clear hs2 hg2 hat hv hlk hkey hC hrow hrg hnx hC2 hnx2 hlt hlt2 ex hown
       cases x with
       | nil =>
         have Hf := Lib.hid (show fullL (ss ++ [[]]) = fullL ss by simp [fullL])
         go_wp2_with fail
         go_roundw
         case rel => exact ⟨v, _, cnt2, ss ++ [[]], rfl, Hrg2.out, Hcs2.out, by rw [Hf.out]; exact hrow2, HC2.out, Hnx2.out⟩
         case measure => rw [Hrg2.out.left_eq]; exact Hlt2.out
       | cons x0 xs =>
         have Hf := Lib.hid (show fullL (ss ++ [x0 :: xs]) = fullL ss ++ [x0 :: xs] by simp [fullL])
         have hne : ((⟨(x0 :: xs).toArray⟩ : ByteArray).toList.isEmpty) = false := by rw [ByteArray.toList_mk]; rfl
         go_wp2_with (at_builtin; refine wpList_append_own _ rfl _ _ 87 rfl wR.heap.size 9 i0 (.string ⟨#[]⟩) 1 16 Tryz.underlying87 hi hz0 hz1 hz2 rfl (by decide) _ _ _ rfl (hrow2.alloc _) ⟨w8.heap.size, 0, none⟩ 1 1 [strV (x0 :: xs)] rfl rfl (cell_one_new _ _ _) (by simp [Value.oneCell']) (by unfold maxLen at *; omega) (by omega) (by have := Hnx2.out.size; simp; omega) ?_; intro v' w9 hown' hg3 hnil3; go_frame)
         have Hs8 := Lib.hid Hnx2.out.size
         have hrg3 := (Hrg2.out.alloc (Obj.cells #[strV (x0 :: xs)] 9)).kept hg3 (row_ne_low hrow2 hMR) (row_ne_iter hrow2 Hrg2.out)
         have hb9 := (Hnx2.out.alloc Hs8.out (Obj.cells #[strV (x0 :: xs)] 9)).grown hg3 (Nat.le_trans Hs8.out (one_below w8 _).size) (fun j hj => (hrow2.lt j hj).1)
         have Hrg3 := Lib.hid hrg3; have Hb9 := Lib.hid hb9
         have Ho9 := Lib.hid (show w9.ownsRow wR.heap.size 9 1 v' (fullL (ss ++ [x0 :: xs])).length ((fullL (ss ++ [x0 :: xs])).map strV) by rw [Hf.out]; simpa using hown')
         clear hrg3 hb9 hown' hg3 hnil3 hrow2
         go_roundw
         case rel => exact ⟨v', _, cnt2, ss ++ [x0 :: xs], rfl, Hrg3.out, Hcs2.out, Ho9.out, HC2.out, Hb9.out⟩
         case measure => rw [Hrg3.out.left_eq]; exact Hlt2.out
end Go.Proofs.YtbommcakcmhalaaGreatDoor
