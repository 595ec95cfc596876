/- Parts of the proof: 17. -/
import Derived.Test.YtmadpclcmjahoaaGreatDoorFN1
import Derived.Test.YtmadpclcmjahoaaGreatDoorFN14
import Derived.Test.YtmadpclcmjahoaaGreatDoorFN16
import Derived.Laws.OwnMore
import Derived.Test.YtmadpclcmjahoaaGreatDoorFN15
set_option linter.unusedVariables false
set_option linter.unusedSimpArgs false
set_option maxHeartbeats 8000000
set_option maxRecDepth 100000
namespace Go.Proofs.YtmadpclcmjahoaaGreatDoor
open Go.RowKit Go.Redl
theorem b_5:(Tryz.prog.info? 27).map (fun i=>(i.zero,i.size,i.bytes))=some (some (.agg #[.string ⟨#[]⟩, .int .i64 0, .string ⟨#[]⟩, .int .i64 0, .string ⟨#[]⟩, .slice none 0 0, .int .i64 0, .string ⟨#[]⟩]),8,112):=by kernel_rfl
theorem n_9 (a:Option Addr) (n c:Nat) (css:List Value) (e1 e3 e5 e8:List UInt8) (e2 e4 e7:Int) (ea:Option Addr) (en ec:Nat) (v9 v10 v11 v12 v13 v14 v15:Value) (W:World) (hr:RowA W W.heap.size 8 a n c css) (hn:n <= 100000000):
 Calls Tryz.prog 88 #[.agg #[.slice a n c,aV e1, .int .i64 e2,aV e3, .int .i64 e4,aV e5, .slice ea en ec, .int .i64 e7,aV e8,v9,v10,v11,v12,v13,v14,v15]] W (rK W 27 8 (n+1) (css ++ [aV e1, .int .i64 e2,aV e3, .int .i64 e4,aV e5, .slice ea en ec, .int .i64 e7,aV e8])):=by
 obtain⟨w0,hw0⟩:∃w0,w0=W.alloc (Obj.cells #[.slice a n c,aV e1, .int .i64 e2,aV e3, .int .i64 e4,aV e5, .slice ea en ec, .int .i64 e7,aV e8,v9,v10,v11,v12,v13,v14,v15] 30):=⟨_,rfl⟩
 have hb0:Below W.heap.size W w0:=by rw [hw0];exact aX _ _
 have hB:At w0 W.heap.size [.slice a n c,aV e1, .int .i64 e2,aV e3, .int .i64 e4,aV e5, .slice ea en ec, .int .i64 e7,aV e8,v9,v10,v11,v12,v13,v14,v15] 30:=by rw [hw0];exact At.fresh _ _ _
 have HR:=a6 (fun(w1:World) (hb:Below w0.heap.size w0 w1)=>hr.keep (hb0.trans (hb.mono hb0.size)) (hb0.trans (hb.mono hb0.size)).size)
 have HS9:=a6 (fun(w':World) (h:At w' W.heap.size [.slice a n c,aV e1, .int .i64 e2,aV e3, .int .i64 e4,aV e5, .slice ea en ec, .int .i64 e7,aV e8,v9,v10,v11,v12,v13,v14,v15] 30)=>(show w'.cell? ⟨W.heap.size,0,none⟩=some (.slice a n c)/\w'.cell? ⟨W.heap.size,1,none⟩=some (aV e1)/\w'.cell? ⟨W.heap.size,2,none⟩=some (.int .i64 e2)/\w'.cell? ⟨W.heap.size,3,none⟩=some (aV e3)/\w'.cell? ⟨W.heap.size,4,none⟩=some (.int .i64 e4)/\w'.cell? ⟨W.heap.size,5,none⟩=some (aV e5)/\w'.cell? ⟨W.heap.size,6,none⟩=some (.slice ea en ec)/\w'.cell? ⟨W.heap.size,7,none⟩=some (.int .i64 e7)/\w'.cell? ⟨W.heap.size,8,none⟩=some (aV e8)by
  obtain⟨x0,x1,x2,x3,x4,x5,x6,x7,x8, -⟩:=h.f16.1
  exact⟨x0,x1,x2,x3,x4,x5,x6,x7,x8⟩))
 have HS0:=a6 (fun(w':World) (hb:Below w0.heap.size w0 w')=>HS9.o w' (hB.kept hb))
 have HB:=a6 hB
 have Hw0:=a6 hw0;have Hb0:=a6 hb0;have Hone:=a6 hr.one
 have hsz:W.heap.size+1 <= w0.heap.size:=hB.lt
 clear hw0 hb0 hB hr
 go_enter Tryz.func88,Tryz.ntmps88
 go_upto_region 1 with fail
 rw [<- Hw0.o]
 clear Hw0
 go_region_held3 (fun w'=>w'.cell? ⟨W.heap.size,0,none⟩=some (.slice a n c)/\w'.cell? ⟨W.heap.size,1,none⟩=some (aV e1)/\w'.cell? ⟨W.heap.size,2,none⟩=some (.int .i64 e2)/\w'.cell? ⟨W.heap.size,3,none⟩=some (aV e3)/\w'.cell? ⟨W.heap.size,4,none⟩=some (.int .i64 e4)/\w'.cell? ⟨W.heap.size,5,none⟩=some (aV e5)/\w'.cell? ⟨W.heap.size,6,none⟩=some (.slice ea en ec)/\w'.cell? ⟨W.heap.size,7,none⟩=some (.int .i64 e7)/\w'.cell? ⟨W.heap.size,8,none⟩=some (aV e8)) (first | with_reducible exact HS2.o | (refine HS0.o _ (by((repeat (first | with_reducible exact Hb1.o | with_reducible exact a7 | with_reducible refine Below.drew ?_ | with_reducible refine Below.alloc ?_ ?_ _ | with_reducible refine Below.setCell ?_ ?_ _)) <;> (first | with_reducible exact a8 | with_reducible exact Hb1.o.size | (have hsz:=Hb1.o.size;simp [World.setCell];omega) | (simp;done) | (simp;omega) | omega)))))
  (first
  | (refine IV rfl _ _ 22 rfl _ 27 _ 8 112 Tryz.underlying22 b_5 rfl (by decide) (.slice none 0 0) 0 [] ?_ (World.ownsRow_nil _ _ _ _) a n c _ _ ?_ (HR.o _ (by((repeat (first | with_reducible exact a7 | with_reducible refine Below.drew ?_ | with_reducible refine Below.alloc ?_ ?_ _ | with_reducible refine Below.setCell ?_ ?_ _)) <;> (first | with_reducible exact a8 | (simp;done) | (simp;omega) | omega)))) ?_ ?_ (a8) ?_
     . go_simp
     . go_simp
     . unfold maxLen;omega
     . omega
     intro v1 w1 hown hgrow
     have hbel:=J2 hgrow
     have Hz1:=a6 hbel.size
     have Hb1:=a6 (Below.and (w0:=w0) (by((repeat (first | with_reducible exact a7 | with_reducible refine Below.drew ?_ | with_reducible refine Below.alloc ?_ ?_ _ | with_reducible refine Below.setCell ?_ ?_ _)) <;> (first | with_reducible exact a8 | (simp;done) | (simp;omega) | omega))) hbel)
     rw [Nat.zero_add,List.nil_append]at hown
     have Hown:=a6 (lK (base:=W.heap.size+1) hown (by simp;omega))
     have HB1:=a6 (HB.o.kept Hb1.o)
     first
      | (refine At.lay (N:= ?_) (cs:= [aV e1, .int .i64 e2,aV e3, .int .i64 e4,aV e5, .slice ea en ec, .int .i64 e7,aV e8]) (T:=27) (At.kept ?_ hbel) ?_
         rotate_left
         . (repeat (first | with_reducible exact At.second _ _ _ _ | with_reducible exact At.fresh _ _ _ | with_reducible refine At.drew ?_ | with_reducible refine At.alloc ?_ _))
         intro HE1)
      | skip
     clear hown hgrow hbel)
  | (refine IV rfl _ _ 22 rfl (W.heap.size+1) 27 _ 8 112 Tryz.underlying22 b_5 rfl (by decide) v1 n css ?_ (j4 Hown.o (aX _ _)) (some ⟨w1.heap.size,0,none⟩) 1 1 _ [aV e1, .int .i64 e2,aV e3, .int .i64 e4,aV e5, .slice ea en ec, .int .i64 e7,aV e8] ?_ (RowQ.row (ok:=fun _=>True) (wZ (T:=27) (by(repeat (first | with_reducible exact HE1.o | with_reducible exact At.second _ _ _ _ | with_reducible exact At.fresh _ _ _ | with_reducible refine At.drew ?_ | with_reducible refine At.alloc ?_ _))) 1 8 rfl (by omega) (by intro u hu;simp at hu;rcases hu with rfl | rfl | rfl | rfl | rfl | rfl | rfl | rfl <;> rfl) trivial)) ?_ ?_ ?_ ?_
     . go_simp
     . go_simp
     . unfold maxLen;omega
     . omega
     . have:=Hb1.o.size;simp;omega
     intro v2 w2 hown2 hgrow2
     have Hown2:=a6 hown2
     have Hb2:=a6 ((show Below W.heap.size W _ from Hb0.o.trans ((show Below w0.heap.size w0 _ by((repeat (first | with_reducible exact Hb1.o | with_reducible exact a7 | with_reducible refine Below.drew ?_ | with_reducible refine Below.alloc ?_ ?_ _ | with_reducible refine Below.setCell ?_ ?_ _)) <;> (first | with_reducible exact a8 | with_reducible exact Hb1.o.size | (have hsz:=Hb1.o.size;simp [World.setCell];omega) | (simp;done) | (simp;omega) | omega))).mono Hb0.o.size)).grown hgrow2 (by have:=Hb1.o.size;simp;omega) (fun k hk=>by have:=(Hown.o.lt k hk).1;omega))
     have HS2:=a6 (HS9.o _ (At.grown (show At _ W.heap.size [.slice a n c,aV e1, .int .i64 e2,aV e3, .int .i64 e4,aV e5, .slice ea en ec, .int .i64 e7,aV e8,v9,v10,v11,v12,v13,v14,v15] 30 by(repeat (first | with_reducible exact HB1.o | with_reducible exact At.second _ _ _ _ | with_reducible exact At.fresh _ _ _ | with_reducible refine At.drew ?_ | with_reducible refine At.alloc ?_ _))) hgrow2 (fun e=>by have:=(Hown.o.lt _ e).1;omega)))
     clear hown2 hgrow2)
  | (refine IV rfl _ _ 22 rfl (W.heap.size+1) 27 _ 8 112 Tryz.underlying22 b_5 rfl (by decide) v1 n css ?_ Hown.o (some ⟨w0.heap.size,0,none⟩) 1 1 _ [aV e1, .int .i64 e2,aV e3, .int .i64 e4,aV e5, .slice ea en ec, .int .i64 e7,aV e8] ?_ (RowQ.row (ok:=fun _=>True) (wZ (T:=27) (by(repeat (first | with_reducible exact HE1.o | with_reducible exact At.second _ _ _ _ | with_reducible exact At.fresh _ _ _ | with_reducible refine At.drew ?_ | with_reducible refine At.alloc ?_ _))) 1 8 rfl (by omega) (by intro u hu;simp at hu;rcases hu with rfl | rfl | rfl | rfl | rfl | rfl | rfl | rfl <;> rfl) trivial)) ?_ ?_ ?_ ?_
     . go_simp
     . go_simp
     . unfold maxLen;omega
     . omega
     . have:=Hb1.o.size;simp;omega
     intro v2 w2 hown2 hgrow2
     have Hown2:=a6 hown2
     have Hb2:=a6 ((show Below W.heap.size W _ from Hb0.o.trans ((show Below w0.heap.size w0 _ by((repeat (first | with_reducible exact Hb1.o | with_reducible exact a7 | with_reducible refine Below.drew ?_ | with_reducible refine Below.alloc ?_ ?_ _ | with_reducible refine Below.setCell ?_ ?_ _)) <;> (first | with_reducible exact a8 | with_reducible exact Hb1.o.size | (have hsz:=Hb1.o.size;simp [World.setCell];omega) | (simp;done) | (simp;omega) | omega))).mono Hb0.o.size)).grown hgrow2 (by have:=Hb1.o.size;simp;omega) (fun k hk=>by have:=(Hown.o.lt k hk).1;omega))
     have HS2:=a6 (HS9.o _ (At.grown (show At _ W.heap.size [.slice a n c,aV e1, .int .i64 e2,aV e3, .int .i64 e4,aV e5, .slice ea en ec, .int .i64 e7,aV e8,v9,v10,v11,v12,v13,v14,v15] 30 by(repeat (first | with_reducible exact HB1.o | with_reducible exact At.second _ _ _ _ | with_reducible exact At.fresh _ _ _ | with_reducible refine At.drew ?_ | with_reducible refine At.alloc ?_ _))) hgrow2 (fun e=>by have:=(Hown.o.lt _ e).1;omega)))
     clear hown2 hgrow2)
  )
 all_goals
  go_wp2_with fail
  go_ret
  exact⟨_,rfl,lK Hown2.o (Nat.le_succ _),Hb2.o⟩
theorem g8.snoc {w:World} {B:Nat} {r:bJ} {c2:List Value} (hr:DV w B r c2):∀ {rs:List bJ} {css:List Value},g8 w B rs css ->g8 w B (rs ++ [r]) (css ++ c2)
 | [],css,h=>by
   rw [show css= []from h]
   exact⟨c2, [],by simp,hr,rfl⟩
 | q::rs,css,h=>by
   obtain⟨c1,c3,rfl,h2,h3⟩:=h
   exact⟨c1,c3 ++ c2,by simp,h2,g8.snoc hr h3⟩
theorem n_a {s:b8} (hw:s.wt <= 100000000):∀j (hj:j < (s.rules ++ [s.els]).length),(s.rules ++ [s.els])[j].kids.length <= 100000000:=by
 intro j hj
 have hm:=List.getElem_mem hj
 have h:(s.rules ++ [s.els])[j].wt <= s.wt:=by
  unfold b8.wt
  rcases List.mem_append.1 hm with h | h
  . have:=DX h;omega
  . rw [List.mem_singleton.1 h];omega
 have:=GZ (s.rules ++ [s.els])[j]
 omega
def m_A (z:Int) (p:vQ):Int:=wrap64 (z+wrap64 ((wrap64 ((p.1.length:Int)+(p.2.2.length:Int))).tdiv 64))
def n_M (y:Int) (q:bJ):Int:=wrap64 (y+wrap64 (1+(q.kids.length:Int)+wrap64 ((wrap64 (wrap64 (wrap64 ((q.type.length:Int)+(q.text.2.length:Int))+(q.other.2.length:Int))+(q.fillT.length:Int))).tdiv 64)))
def f_y (y:Int) (q:bJ):Int:=q.kids.foldl m_A (n_M y q)
def l_Z (l:List bJ):Bool:=decide (l.foldl f_y 0 <= 80)
theorem k_o (s:b8) (v:Value) (W:World) (hw:s.wt <= 100000000) (hv:SchemaV W W.heap.size s v):
 Calls Tryz.prog 34 #[v] W (fun e w'=>e= .returned (.bool (l_Z (s.rules ++ [s.els])))/\Below W.heap.size W w'):=by
 have hrl:s.rules.length <= 100000000 - 1:=by have:=pJ s.rules;have:1 <= s.els.wt:=by { unfold bJ.wt;omega };unfold b8.wt at hw;omega
 obtain⟨a,c,css,ea,ec,o0,o1,o2,o3,o4,o5,rfl,h1,h2,h3, -⟩:=hv.open
 have hkl:=n_a hw
 obtain⟨rs,⟨ty,⟨td,tt⟩,⟨od,ot⟩,kids,fill,ft⟩,order,scap⟩:=s
 simp only at hrl h1 h2 h3 hkl⊢
 obtain⟨w0,hw0⟩:∃w0,w0=W.alloc (Obj.cells #[.slice a rs.length c,aV ty, .int .i64 td,aV tt, .int .i64 od,aV ot, .slice ea kids.length ec, .int .i64 fill,aV ft, .int .i64 o0, .int .i64 o1, .int .i64 o2, .int .i64 o3, .int .i64 o4, .int .i64 o5, .int .i64 scap] 30):=⟨_,rfl⟩
 have hb0:Below W.heap.size W w0:=by rw [hw0];exact aX _ _
 have hA:At w0 W.heap.size [.slice a rs.length c,aV ty, .int .i64 td,aV tt, .int .i64 od,aV ot, .slice ea kids.length ec, .int .i64 fill,aV ft, .int .i64 o0, .int .i64 o1, .int .i64 o2, .int .i64 o3, .int .i64 o4, .int .i64 o5, .int .i64 scap] 30:=by rw [hw0];exact At.fresh _ _ _
 have HC:=a6 (n_9 a rs.length c css ty tt ot ft td od fill ea kids.length ec (.int .i64 o0) (.int .i64 o1) (.int .i64 o2) (.int .i64 o3) (.int .i64 o4) (.int .i64 o5) (.int .i64 scap) w0 (h1.keep hb0 hb0.size) (by omega))
 have HR:=a6 (fun(w':World) (hb:Below W.heap.size W w')=>g8.snoc (r:=⟨ty,(td,tt),(od,ot),kids,fill,ft⟩) (c2:= [aV ty, .int .i64 td,aV tt, .int .i64 od,aV ot, .slice ea kids.length ec, .int .i64 fill,aV ft]) (⟨ea,ec,rfl,h3.keep hb hb.size⟩) (g8.keep hb hb.size h2))
 have Hb0:=a6 hb0;have Hw0:=a6 hw0
 obtain⟨L,hL⟩:∃L:List bJ,L=rs ++ [⟨ty,(td,tt),(od,ot),kids,fill,ft⟩]:=⟨_,rfl⟩
 have hLn:L.length=rs.length+1:=by rw [hL];simp
 rw [<- hL]at HR hkl⊢
 obtain⟨T,hT⟩:∃T,T=L.foldl f_y 0:=⟨_,rfl⟩
 have HT:=a6 hT
 have HF:=a6 (show l_Z L=decide (T <= 80)by rw [hT];rfl)
 have Hkl:=a6 hkl;have HLn:=a6 hLn
 obtain⟨⟨x0,x1,x2,x3,x4,x5,x6,x7,x8,x9,x10,x11,x12,x13,x14,x15⟩, -,xl⟩:=hA.f16
 clear hw hv h1 h2 h3 hb0 hw0 hA hL hLn hkl hT
 go_enter Tryz.func34,Tryz.ntmps34
 go_upto_region 1 with fail
 rw [<- Hw0.o]
 clear Hw0
 go_wp2_with fail
 refine HC.o.mono ?_
 rintro e w1 ⟨v1,rfl,hown,hbel⟩
 have hRc:=HR.o w1 (Hb0.o.trans (hbel.mono Hb0.o.size))
 obtain⟨qa,qc,rfl,hq⟩:=oK hown (g8.one hRc)
 have Hq:=a6 hq.row;have HRc:=a6 hRc
 have Hb1:=a6 (Hb0.o.trans (hbel.mono Hb0.o.size))
 have Hsz:=a6 (Hb0.o.trans (hbel.mono Hb0.o.size)).size
 clear HC HR hown hbel hRc hq x0 x1 x2 x3 x4 x5 x6 x7 x8 x9 x10 x11 x12 x13 x14 x15 xl Hb0
 rw [<- HLn.o]at Hq
 rw [<- HLn.o]
 have hlm:L.length <= 100000000:=by have:=HLn.o;omega
 clear HLn hrl
 go_wp2_with fail
 go_loopg [3,11] L.length (fun g x i wr=>∃ (k:Nat) (y:Int),x= .int .i64 y/\i= .int .i64 k/\k+g=L.length/\(L.drop k).foldl f_y y=T/\Below w1.heap.size w1 wr)
 case atStart=>exact⟨0,0,rfl,rfl,by omega,HT.o.symm,a7⟩
 case round=>
  obtain⟨k,y,rfl,rfl,hg,hfo,hbr⟩:=hrel
  have Hfo:=a6 hfo
  have Hbr:=a6 hbr
  by_cases hlt:k < L.length
  . have hlti:(k:Int) < L.length:=by omega
    obtain⟨b,off,ra,rc,rfl, -,hrr,g0,g1,g2,g3,g4,g5,g6,g7⟩:=h_I (Hq.o.keep hbr hbr.size) (g8.keep hbr hbr.size HRc.o) k hlt
    have hkk:=Hkl.o k hlt
    have Hrr:=a6 (fun(w':World) (hb:Below wr.heap.size wr w')=>hrr.keep hb hb.size)
    rw [List.drop_eq_getElem_cons hlt,List.foldl_cons]at hfo
    have Hfo:=a6 hfo
    clear hfo
    generalize L[k]=q at Hfo g0 g1 g2 g3 g4 g5 g6 g7 Hrr hkk
    obtain⟨Y,hY⟩:∃Y,Y=f_y y q:=⟨_,rfl⟩
    rw [<- hY]at Hfo
    have HY:=a6 hY
    clear hbr hrr Hkl hY
    go_wp2_with fail
    go_loopg [3,43] q.kids.length (fun g x i w2=>∃ (j:Nat) (z:Int),x= .int .i64 z/\i= .int .i64 j/\j+g=q.kids.length/\(q.kids.drop j).foldl m_A z=Y/\Below wr.heap.size wr w2)
    case atStart=>exact⟨0,_,rfl,rfl,by omega,HY.o.symm,aX _ _⟩
    case round=>
     obtain⟨j,z,rfl,rfl,hg2,hfp,hbr2⟩:=hrel
     have Hbr2:=a6 hbr2
     by_cases hlt2:j < q.kids.length
     . have hlti2:(j:Int) < q.kids.length:=by omega
       obtain⟨b2,off2,rfl, -,p0,p1,p2⟩:=(Hrr.o _ hbr2).pair_at j hlt2
       rw [List.drop_eq_getElem_cons hlt2,List.foldl_cons]at hfp
       have Hfp:=a6 hfp
       generalize q.kids[j]=pr at Hfp p0 p1 p2
       clear hbr2 hfp
       go_wp2_with fail
       go_roundg (q.kids.length - (j+1))
       case measure=>omega
       case rel=>exact⟨j+1,_,rfl,by go_num,by omega,Hfp.o,Hbr2.o.alloc Hbr2.o.size _⟩
     . obtain rfl:j=q.kids.length:=by omega
       rw [List.drop_length,List.foldl_nil]at hfp
       have Hfp:=a6 hfp
       clear hbr2 hfp
       go_wp2_with fail
       go_roundg (L.length - (k+1))
       case measure=>omega
       case rel=>exact⟨k+1,_,rfl,by go_num,by omega,(congrArg (fun x=>(L.drop (k+1)).foldl f_y x) Hfp.o).trans Hfo.o,Hbr.o.trans (Hbr2.o.mono Hbr.o.size)⟩
  . obtain rfl:k=L.length:=by omega
    rw [List.drop_length,List.foldl_nil]at hfo
    have Hfo:=a6 hfo
    clear hbr hfo
    go_wp2_with fail
    go_ret
    exact⟨b7 (HF.o.trans (by rw [<- Hfo.o])).symm,Hb1.o.trans (Hbr.o.mono Hsz.o)⟩
def H0 (s:b8) (n:aK) (p:List Int):Bool:=l_Z (s.rules ++ [s.els]) && i_y n 120 && decide (p.length <= 40)
theorem k_p (s:b8) (n:aK) (u v:Value) (p:List Int) (pa:Option Addr) (pc:Nat) (W:World) (hs:s.wt <= 100000000) (hn:n.wt <= 100000000) (hp:p.length <= 100000000) (hu:SchemaV W W.heap.size s u) (hv:bY W W.heap.size n v):
 Calls Tryz.prog 9 #[u,v, .slice pa p.length pc] W (fun e w'=>e= .returned (.bool (H0 s n p))/\Below W.heap.size W w'):=by
 have hu0:=hu;have hv0:=hv
 obtain⟨l,ps,t,ks⟩:=n
 obtain⟨a,c,css,ea,ec,o0,o1,o2,o3,o4,o5,rfl, -, -, -, -⟩:=hu0.open
 obtain⟨ap,cp,at_,ct,ak,ck,cs4,rfl, -, -, -, -⟩:=hv0.open
 obtain⟨w0,hw0⟩:∃w0,w0=(W.alloc (Obj.cells #[.slice a s.rules.length c,aV s.els.type, .int .i64 s.els.text.1,aV s.els.text.2, .int .i64 s.els.other.1,aV s.els.other.2, .slice ea s.els.kids.length ec, .int .i64 s.els.fill,aV s.els.fillT, .int .i64 o0, .int .i64 o1, .int .i64 o2, .int .i64 o3, .int .i64 o4, .int .i64 o5, .int .i64 s.cap] 30)).alloc (Obj.cells #[.bool l, .slice ap ps.length cp, .slice at_ t.length ct, .slice ak ks.length ck] 35):=⟨_,rfl⟩
 have hb0:Below W.heap.size W w0:=by rw [hw0];exact(aX _ _).trans ((aX _ _).mono (aX _ _).size)
 have hA:At w0 W.heap.size [.slice a s.rules.length c,aV s.els.type, .int .i64 s.els.text.1,aV s.els.text.2, .int .i64 s.els.other.1,aV s.els.other.2, .slice ea s.els.kids.length ec, .int .i64 s.els.fill,aV s.els.fillT, .int .i64 o0, .int .i64 o1, .int .i64 o2, .int .i64 o3, .int .i64 o4, .int .i64 o5, .int .i64 s.cap] 30:=by rw [hw0];exact(At.fresh W _ _).alloc _
 have hN:At w0 (W.heap.size+1) [.bool l, .slice ap ps.length cp, .slice at_ t.length ct, .slice ak ks.length ck] 35:=by rw [hw0];exact At.second W _ _ _
 have HS:=a6 (fun(w':World) (hb:Below w0.heap.size w0 w')=>k_o s _ w' hs (hu.keep (hb0.trans (hb.mono hb0.size)) (hb0.trans (hb.mono hb0.size)).size))
 have HT:=a6 (fun(w':World) (hb:Below w0.heap.size w0 w')=>n_4 (.mk l ps t ks) _ 120 w' hn (by omega) (by omega) (hv.keep (hb0.trans (hb.mono hb0.size)) (hb0.trans (hb.mono hb0.size)).size))
 obtain⟨⟨x0,x1,x2,x3,x4,x5,x6,x7,x8,x9,x10,x11,x12,x13,x14,x15⟩, -,xl⟩:=hA.f16
 have HN:=a6 hN
 have Hb0:=a6 hb0;have Hw0:=a6 hw0
 unfold H0
 clear hu hv hu0 hv0 hs hn hb0 hw0 hA hN
 go_enter Tryz.func9,Tryz.ntmps9
 go_upto_region 1 with fail
 rw [<- Hw0.o]
 clear Hw0
 go_wp2_with fail
 refine(HS.o w0 (a7)).mono ?_
 rintro e w1 ⟨rfl,hbel⟩
 have Hb1:=a6 (hbel)
 have HN1:=a6 (HN.o.kept hbel)
 clear hbel HS HN x0 x1 x2 x3 x4 x5 x6 x7 x8 x9 x10 x11 x12 x13 x14 x15 xl
 obtain⟨⟨y0,y1,y2,y3⟩, -,yl⟩:=HN1.o.f4
 cases h1:l_Z (s.rules ++ [s.els])with
 | false=>
   have H1:=a6 h1
   clear HT h1
   go_wp2_with fail
   go_ret
   exact⟨b7 (by simp [H1.o]),Hb0.o.trans (Hb1.o.mono Hb0.o.size)⟩
 | true=>
   have H1:=a6 h1
   clear h1
   go_wp2_with fail
   refine(HT.o w1 Hb1.o).mono ?_
   rintro e w2 ⟨rfl,hbel⟩
   have Hb2:=a6 (Hb1.o.trans (hbel.mono Hb1.o.size))
   clear hbel HT HN1 y0 y1 y2 y3 yl
   cases h2:i_y (.mk l ps t ks) 120 with
   | false=>
     have H2:=a6 h2
     clear h2
     go_wp2_with fail
     go_ret
     exact⟨b7 (by simp [H1.o,H2.o]),Hb0.o.trans (Hb2.o.mono Hb0.o.size)⟩
   | true=>
     have H2:=a6 h2
     clear h2
     go_wp2_with fail
     go_ret
     exact⟨b7 (by simp [H1.o,H2.o];omega),Hb0.o.trans (Hb2.o.mono Hb0.o.size)⟩
theorem g_P (n X:aK) (p d:List Int) (pos:Int) (nd:aK) (ol:List eK) (v:Value) (pa ta oa:Option Addr) (pc tc oc:Nat) (l0:Bool) (a1 a2 a3:Option Addr) (m1 m2 m3 c1 c2 c3:Nat) (W:World)
 (hbn:n.wt <= 100000000) (hv:bY W W.heap.size n v) (hbig:nd.wt <= 1048576) (hn:bY W W.heap.size nd (.agg #[.bool l0, .slice a1 m1 c1, .slice a2 m2 c2, .slice a3 m3 c3]))
 (hp:RowA W W.heap.size 1 pa p.length pc (p.map (Value.int .i64))) (hpl:p.length <= 1000000) (hE:eQ nd=0) (hadd:FK n p nd=(X,0)):
 Calls Tryz.prog 66 #[v, .agg #[.int .i64 1, .slice pa p.length pc, .slice ta d.length tc, .int .i64 pos, .bool l0, .slice a1 m1 c1, .slice a2 m2 c2, .slice a3 m3 c3, .slice oa ol.length oc, .slice none 0 0, .slice none 0 0, .bool false, .slice none 0 0, .int .i64 0, .slice none 0 0, .int .i64 0, .bool false, .slice none 0 0, .int .i64 0, .slice none 0 0, .int .i64 0]] W (vX W (X,0)):=by
 obtain⟨csn,rfl,hc⟩:=hv
 obtain⟨l,b1,o1,d1,b2,o2,d2,b3,o3,d3,rfl⟩:=hc.form
 obtain⟨kd,hkd⟩:∃kd:Int,kd=1:=⟨_,rfl⟩
 rw [<- hkd]
 obtain⟨w0,hw0⟩:∃w0,w0=(((((W.alloc (Obj.cells #[.bool l, .slice b1 o1 d1, .slice b2 o2 d2, .slice b3 o3 d3] 35)).alloc (Obj.cells #[.int .i64 kd, .slice pa p.length pc, .slice ta d.length tc, .int .i64 pos, .bool l0, .slice a1 m1 c1, .slice a2 m2 c2, .slice a3 m3 c3, .slice oa ol.length oc, .slice none 0 0, .slice none 0 0, .bool false, .slice none 0 0, .int .i64 0, .slice none 0 0, .int .i64 0, .bool false, .slice none 0 0, .int .i64 0, .slice none 0 0, .int .i64 0] 55)).alloc (Obj.cells #[.bool false, .slice none 0 0, .slice none 0 0, .slice none 0 0] 35)).alloc (Obj.cells #[.bool false, .slice none 0 0, .slice none 0 0, .slice none 0 0] 35)).alloc (Obj.cells #[.bool false, .slice none 0 0, .slice none 0 0, .slice none 0 0] 35)):=⟨_,rfl⟩
 have hb0:Below W.heap.size W w0:=by rw [hw0];exact N4 _ _ _ _ _ _
 have hs0:w0.heap.size=W.heap.size+5:=by rw [hw0];simp
 have hA:b6 w0 W.heap.size (.bool l) (.slice b1 o1 d1) (.slice b2 o2 d2) (.slice b3 o3 d3):=by rw [hw0];exact((((At.fresh W _ _).alloc _).alloc _).alloc _).alloc _
 have hO:At w0 (W.heap.size+1) [.int .i64 kd, .slice pa p.length pc, .slice ta d.length tc, .int .i64 pos, .bool l0, .slice a1 m1 c1, .slice a2 m2 c2, .slice a3 m3 c3, .slice oa ol.length oc, .slice none 0 0, .slice none 0 0, .bool false, .slice none 0 0, .int .i64 0, .slice none 0 0, .int .i64 0, .bool false, .slice none 0 0, .int .i64 0, .slice none 0 0, .int .i64 0] 55:=by rw [hw0];exact(((At.second W _ _ _).alloc _).alloc _).alloc _
 have hX:b6 w0 (W.heap.size+1+1) (.bool false) (.slice none 0 0) (.slice none 0 0) (.slice none 0 0):=by rw [hw0];exact((At.third W _ _ _ _).alloc _).alloc _
 have HCk:=a6 (c_d nd _ w0.heap.size w0 hbig (show bY w0 w0.heap.size nd (.agg #[.bool l0, .slice a1 m1 c1, .slice a2 m2 c2, .slice a3 m3 c3])by obtain⟨cs,he,hc⟩:=hn;exact⟨cs,he,dJ.keep hb0 hb0.size _ _ hc⟩) (a8))
 rw [hE]at HCk
 have had:=fun(w':World) (hb:Below w0.heap.size w0 w')=>m_y n nd p (.agg #[.bool l, .slice b1 o1 d1, .slice b2 o2 d2, .slice b3 o3 d3]) (.agg #[.bool l0, .slice a1 m1 c1, .slice a2 m2 c2, .slice a3 m3 c3]) pa pc w' hbn (by omega) ⟨_,rfl,dJ.keep (hb0.trans (hb.mono hb0.size)) (hb0.trans (hb.mono hb0.size)).size _ _ hc⟩ (by obtain⟨cs,he,hc⟩:=hn;exact⟨cs,he,dJ.keep (hb0.trans (hb.mono hb0.size)) (hb0.trans (hb.mono hb0.size)).size _ _ hc⟩) (hp.keep (hb0.trans (hb.mono hb0.size)) (hb0.trans (hb.mono hb0.size)).size) hpl
 rw [hadd]at had
 have HAd:=a6 had
 have x0:=hO.cell 0 rfl;have x4:=hO.cell 4 rfl;have x5:=hO.cell 5 rfl;have x6:=hO.cell 6 rfl;have x7:=hO.cell 7 rfl;have xl:=hO.lt
 have HA:=a6 hA;have HO:=a6 hO;have HX:=a6 hX;have Hb0:=a6 hb0;have Hs0:=a6 hs0;have Hw0:=a6 hw0
 have q1:(kd == 1)=true:=by subst hkd;rfl
 have q2:(kd == 2)=false:=by subst hkd;rfl
 have q3:(kd == 3)=false:=by subst hkd;rfl
 have q4:(kd == 4)=false:=by subst hkd;rfl
 have q5:(kd == 5)=false:=by subst hkd;rfl
 clear hc hn hp hb0 hs0 hA hO hX had hw0 hE hadd hkd
 go_enter Tryz.func66,Tryz.ntmps66
 go_upto_region 2 with fail
 rw [<- Hw0.o]
 clear Hw0
 go_wp2_with fail
 refine HCk.o.mono ?_
 rintro e w1 ⟨rfl,hb1⟩
 have hO1:=HO.o.kept hb1
 have z1:=hO1.cell 1 rfl;have z4:=hO1.cell 4 rfl;have z5:=hO1.cell 5 rfl;have z6:=hO1.cell 6 rfl;have z7:=hO1.cell 7 rfl
 obtain⟨y0,y1,y2,y3, -, -⟩:=(HA.o.keep (hb1.mono (by have:=Hs0.o;omega))).facts
 have HX1:=a6 (HX.o.keep (hb1.mono (by have:=Hs0.o;omega)))
 have HM:=a6 (HAd.o w1 hb1)
 have Hb1:=a6 (Hb0.o.trans (hb1.mono Hb0.o.size))
 have Hs2:=a6 hb1.size
 clear HCk hb1 hO1 HAd x0 x4 x5 x6 x7 xl HA HO HX
 go_wp2_with fail
 refine HM.o.mono ?_
 intro e w3 ht
 obtain⟨hb3,⟨-,l',k1',o4,r1',k2',o5,r2',k3',o6,r3',rfl,hq3⟩ | ⟨hz, -⟩⟩:=ht.cases
 . have hX3:=HX1.o.keep (hb3.mono (by have:=HX1.o.facts.2.2.2.2.2;omega))
   have Hb3:=a6 (Hb1.o.trans (hb3.mono Hb1.o.size))
   have Hq3:=a6 (show NodeQ w3 (fun b=>w0.heap.size <= b) X [.bool l', .slice k1' o4 r1', .slice k2' o5 r2', .slice k3' o6 r3']from NodeQ.keep (a8) (fun _ _ _=>rfl) (fun b hb _=>aJ Hs2.o hb) _ _ hq3)
   clear HM ht hb3 hq3 z1 z4 z5 z6 z7 y0 y1 y2 y3
   obtain⟨x0,x1,x2,x3,⟨fx0,fx1,fx2,fx3⟩,xl⟩:=hX3.facts
   clear hX3
   go_wp2_with fail
   refine bodyPost_ret (v:= .tuple #[.agg #[.bool l', .slice k1' o4 r1', .slice k2' o5 r2', .slice k3' o6 r3'], .int .i64 0]) (by simp [results,Tryz.results66,go_sem,x0,x1,x2,x3,fx0,fx1,fx2,fx3]) rfl ?_
   exact GX (N:=W.heap.size+1+1) Hb3.o Hb0.o.size (by rw [Hs0.o];omega) (by omega) Hq3.o
 . exact absurd rfl hz
theorem BZ:∀args w,(callFunc 119 args).run Tryz.prog w= .ok (.enter 119 args) w:=by intro args w;kernel_rfl
theorem C1 (w:World):Calls Tryz.prog 119 #[.slice none 0 0] w (fun e w'=>(∃a c,e= .returned (.slice a 0 c))/\Below w.heap.size w w'):=by
 refine(qV 0 0 none 0 [] w (RowA.empty _ _ _) (Nat.zero_le _) (by omega)).mono ?_
 rintro e w' ⟨v,rfl,hown,hb⟩
 obtain⟨va,vc,rfl, -⟩:=cK hown (by intro u hu;cases hu)
 exact⟨⟨va,vc,rfl⟩,hb⟩
theorem n_b (W:World):
 Calls Tryz.prog 65 #[IK] W (fun e w'=>(∃a c a' c',e= .returned (.agg #[.bool false, .slice a 0 c, .int .i64 0, .slice a' 0 c', .int .i64 0]))/\Below W.heap.size W w'):=by
 obtain⟨w0,hw0⟩:∃w0,w0=(W.alloc (Obj.cells #[.bool false, .slice none 0 0, .int .i64 0, .slice none 0 0, .int .i64 0] 53)).alloc (Obj.cells #[.bool false, .slice none 0 0, .int .i64 0, .slice none 0 0, .int .i64 0] 53):=⟨_,rfl⟩
 have hb0:Below W.heap.size W w0:=by rw [hw0];exact(aX _ _).alloc (by simp) _
 have hs0:w0.heap.size=W.heap.size+2:=by rw [hw0];simp
 have hA:At w0 W.heap.size [.bool false, .slice none 0 0, .int .i64 0, .slice none 0 0, .int .i64 0] 53:=by rw [hw0];exact(At.fresh W _ _).alloc _
 have hB:At w0 (W.heap.size+1) [.bool false, .slice none 0 0, .int .i64 0, .slice none 0 0, .int .i64 0] 53:=by rw [hw0];exact At.second W _ _ _
 obtain⟨⟨x0,x1,x2,x3,x4⟩,xf,xl⟩:=hA.f5
 have HA:=a6 hA;have HB:=a6 hB;have Hb0:=a6 hb0;have Hs0:=a6 hs0;have Hw0:=a6 hw0
 clear hA hB hb0 hs0 hw0
 go_enter Tryz.func65,Tryz.ntmps65
 go_upto_region 1 with fail
 rw [<- Hw0.o]
 clear Hw0
 go_cut [] (fun wx=>∃a c a' c',At wx W.heap.size [.bool false, .slice a 0 c, .int .i64 0, .slice a' 0 c', .int .i64 0] 53/\At wx (W.heap.size+1) [.bool false, .slice none 0 0, .int .i64 0, .slice none 0 0, .int .i64 0] 53/\Below W.heap.size W wx)
 case first=>
  go_region_law (first
   | (refine b9 rfl 119 _ _ rfl BZ [.slice none 0 0] ?_ _ (C1 w0.drew) ?_
      . go_simp
      rintro e w1 ⟨⟨va,vc,rfl⟩,hbel⟩
      refine⟨_,rfl, ?_⟩
      have Hb1:=a6 (((Below.refl w0.heap.size w0).drew).trans hbel)
      obtain⟨⟨y0,y1,y2,y3,y4⟩,yf,yl⟩:=(HA.o.kept Hb1.o).f5
      clear hbel)
   | (refine b9 rfl 119 _ _ rfl BZ [.slice none 0 0] ?_ _ (C1 w1) ?_
      . go_simp
      rintro e w2 ⟨⟨ua,uc,rfl⟩,hbel⟩
      refine⟨_,rfl, ?_⟩
      have Hb2:=a6 (Hb1.o.trans (hbel.mono Hb1.o.size))
      have HA2:=a6 (HA.o.kept Hb2.o)
      obtain⟨⟨z0,z1,z2,z3,z4⟩,zf,zl⟩:=HA2.o.f5
      clear hbel))
  all_goals
   go_wp2_with fail
   go_meet
   case rel=>
    refine⟨va,vc,ua,uc,(HA2.o.set 1 _).set 3 _,((HB.o.kept Hb2.o).set_ne (by omega) _).set_ne (by omega) _,((Hb0.o.trans (Hb2.o.mono Hb0.o.size)).setCell (p:=⟨W.heap.size,1,none⟩) (a8) _).setCell (p:=⟨W.heap.size,3,none⟩) (a8) _⟩
 case rest=>
  obtain⟨a,c,a',c',hA,hB,hbel⟩:=hcut
  obtain⟨⟨y0,y1,y2,y3,y4⟩,yf,yl⟩:=hA.f5
  obtain⟨⟨z0,z1,z2,z3,z4⟩,zf,zl⟩:=hB.f5
  have Hbel:=a6 hbel
  clear hA hB hbel x0 x1 x2 x3 x4 xf xl HA HB
  go_wp2_with fail
  refine bodyPost_ret (v:= .agg #[.bool false, .slice a 0 c, .int .i64 0, .slice a' 0 c', .int .i64 0]) (by simp [results,Tryz.results65,go_sem,z0,z1,z2,z3,z4,zf]) rfl ?_
  exact⟨⟨a,c,a',c',rfl⟩,((((Hbel.o.setCell (p:=⟨W.heap.size+1,0,none⟩) (by show _ <= _+1;omega) _).setCell (p:=⟨W.heap.size+1,1,none⟩) (by show _ <= _+1;omega) _).setCell (p:=⟨W.heap.size+1,2,none⟩) (by show _ <= _+1;omega) _).setCell (p:=⟨W.heap.size+1,3,none⟩) (by show _ <= _+1;omega) _).setCell (p:=⟨W.heap.size+1,4,none⟩) (by show _ <= _+1;omega) _⟩
theorem g_Q:∀args w,(callFunc 114 args).run Tryz.prog w= .ok (.enter 114 args) w:=by intro args w;kernel_rfl
theorem c_w:∀args w,(callFunc 113 args).run Tryz.prog w= .ok (.enter 113 args) w:=by intro args w;kernel_rfl
theorem f_z:∀args w,(callFunc 61 args).run Tryz.prog w= .ok (.enter 61 args) w:=by intro args w;kernel_rfl
theorem i_C (w:World):Calls Tryz.prog 114 #[.slice none 0 0] w (fun e w'=>(∃a c,e= .returned (.slice a 0 c))/\Below w.heap.size w w'):=by
 refine(DQ 0 0 none 0 [] w (RowA.empty _ _ _) (Nat.zero_le _) (by omega)).mono ?_
 rintro e w' ⟨v,rfl,hown,hb⟩
 obtain⟨va,vc,rfl, -⟩:=cK hown (by intro u hu;cases hu)
 exact⟨⟨va,vc,rfl⟩,hb⟩
theorem b_r (B:Nat) (p:List Int) (a:Option Addr) (c:Nat) (w:World) (hr:RowA w B 1 a p.length c (p.map (Value.int .i64))) (hB:B <= w.heap.size) (hn:p.length <= 1000000):
 Calls Tryz.prog 119 #[.slice a p.length c] w (fun e w'=>(∃a c,e= .returned (.slice a p.length c)/\RowQ w' (fun b=>w.heap.size <= b) 1 a p.length c (p.map (Value.int .i64)))/\Below w.heap.size w w'):=by
 refine(qV B p.length a c _ w hr hB (by omega)).mono ?_
 rintro e w' ⟨v,rfl,hown,hb⟩
 obtain⟨va,vc,rfl,hq⟩:=RowQ.of_own hown (by intro u hu;obtain⟨z, -,rfl⟩:=List.mem_map.1 hu;rfl)
 exact⟨⟨va,vc,rfl,hq.keep (a8) (fun _ _ _=>rfl) (fun b hb _=>(hown.lt b hb).1)⟩,hb⟩
theorem f_A {w w':World} {B M sz n cap:Nat} {a:Option Addr} {cs:List Value} (h:RowQ w (fun b=>B <= b) sz a n cap cs) (hg:w.grownBy w' (some M)) (hM:M < B):RowQ w' (fun b=>B <= b) sz a n cap cs:=
 h.keep hg.size (fun b hb hlt=>hg.block b hlt (fun e=>by injection e with e;omega)) (fun b hb _=>hb)
theorem At.store {P:Program} {w:World} {N:Nat} {cs cs':List Value} {T:TypeId} (h:At w N cs T) (hl:cs'.length=cs.length) (h1:cs'.all (·.oneCell')=true) (hi:(P.info? T).map (·.size)=some cs'.length):
 ∃w',(Instr.storeAt T (.pointer (some ⟨N,0,none⟩)) (.agg cs'.toArray)).run P w= .ok () w'/\At w' N cs' T/\w.grownBy w' (some N):=by
 refine⟨w.setCells N 0 cs', ?_, ?_,gK cs' 0 w⟩
 . refine run_storeAt_mid w N 0 T cs'.toArray (fun j hj=>⟨?_, ?_⟩) (by simpa using hi) (by simpa using h1)
   . have hj':j < cs.length:=by rw [<- hl];simpa using hj
     rw [Nat.zero_add,h.cell j (List.getElem?_eq_getElem hj')];rfl
   . rw [Nat.zero_add];exact Lib.frozen_of_heap h j
 . obtain ⟨cur',g1,g2,g3⟩:=l9 N cs' 0 w cs.toArray T (0,0) h (by simp [hl])
   unfold At
   rw [g1]
   have:cur'=cs'.toArray:=by
    apply Array.toList_inj.1
    rw [g3]
    simp [<- hl]
   rw [this]
theorem n_c (p d:List Int) (kd pos:Int) (nd:aK) (ol:List eK) (pa ta oa:Option Addr) (pc tc oc:Nat) (l0:Bool) (a1 a2 a3:Option Addr) (m1 m2 m3 c1 c2 c3:Nat) (W:World)
 (hbig:nd.wt <= 100000000) (hn:bY W W.heap.size nd (.agg #[.bool l0, .slice a1 m1 c1, .slice a2 m2 c2, .slice a3 m3 c3]))
 (hp:RowA W W.heap.size 1 pa p.length pc (p.map (Value.int .i64))) (hpl:p.length <= 1000000) (hd:RowA W W.heap.size 1 ta d.length tc (d.map (Value.int .i64))) (hdl:d.length <= 1000000) (ho:RowA W W.heap.size 2 oa ol.length oc (bK ol)) (hol:ol.length <= 100000000):
 Calls Tryz.prog 189 #[.agg #[.int .i64 kd, .slice pa p.length pc, .slice ta d.length tc, .int .i64 pos, .bool l0, .slice a1 m1 c1, .slice a2 m2 c2, .slice a3 m3 c3, .slice oa ol.length oc, .slice none 0 0, .slice none 0 0, .bool false, .slice none 0 0, .int .i64 0, .slice none 0 0, .int .i64 0, .bool false, .slice none 0 0, .int .i64 0, .slice none 0 0, .int .i64 0]] W (fun e w'=>(∃ (qa:Option Addr) (qc:Nat) (ra:Option Addr) (rc:Nat) (xa:Option Addr) (xc:Nat) (v4 v5 v6 v7 v8 v9:Value) (g1 g2 g3 g4:Option Addr) (h1 h2 h3 h4:Nat),e= .returned (.agg #[.int .i64 kd, .slice qa p.length qc, .slice ra d.length rc, .int .i64 pos,v4,v5,v6,v7,v8,v9, .slice xa 0 xc, .bool false, .slice g1 0 h1, .int .i64 0, .slice g2 0 h2, .int .i64 0, .bool false, .slice g3 0 h3, .int .i64 0, .slice g4 0 h4, .int .i64 0])/\RowQ w' (fun b=>W.heap.size <= b) 1 qa p.length qc (p.map (Value.int .i64))/\RowQ w' (fun b=>W.heap.size <= b) 1 ra d.length rc (d.map (Value.int .i64))/\ [v4,v5,v6,v7,v8,v9].all (·.oneCell')=true/\(∃a n c,v8= .slice a n c)/\(∃a n c,v9= .slice a n c))/\Below W.heap.size W w'):=by
 obtain⟨w0,hw0⟩:∃w0,w0=(W.alloc (Obj.cells #[.int .i64 kd, .slice pa p.length pc, .slice ta d.length tc, .int .i64 pos, .bool l0, .slice a1 m1 c1, .slice a2 m2 c2, .slice a3 m3 c3, .slice oa ol.length oc, .slice none 0 0, .slice none 0 0, .bool false, .slice none 0 0, .int .i64 0, .slice none 0 0, .int .i64 0, .bool false, .slice none 0 0, .int .i64 0, .slice none 0 0, .int .i64 0] 55)).alloc (Obj.cells #[.int .i64 0, .slice none 0 0, .slice none 0 0, .int .i64 0, .bool false, .slice none 0 0, .slice none 0 0, .slice none 0 0, .slice none 0 0, .slice none 0 0, .slice none 0 0, .bool false, .slice none 0 0, .int .i64 0, .slice none 0 0, .int .i64 0, .bool false, .slice none 0 0, .int .i64 0, .slice none 0 0, .int .i64 0] 55):=⟨_,rfl⟩
 have hb0:Below W.heap.size W w0:=by rw [hw0];exact(aX _ _).alloc (by simp) _
 have hs0:w0.heap.size=W.heap.size+2:=by rw [hw0];simp
 have hA:At w0 W.heap.size [.int .i64 kd, .slice pa p.length pc, .slice ta d.length tc, .int .i64 pos, .bool l0, .slice a1 m1 c1, .slice a2 m2 c2, .slice a3 m3 c3, .slice oa ol.length oc, .slice none 0 0, .slice none 0 0, .bool false, .slice none 0 0, .int .i64 0, .slice none 0 0, .int .i64 0, .bool false, .slice none 0 0, .int .i64 0, .slice none 0 0, .int .i64 0] 55:=by rw [hw0];exact(At.fresh W _ _).alloc _
 have hB:At w0 (W.heap.size+1) [.int .i64 0, .slice none 0 0, .slice none 0 0, .int .i64 0, .bool false, .slice none 0 0, .slice none 0 0, .slice none 0 0, .slice none 0 0, .slice none 0 0, .slice none 0 0, .bool false, .slice none 0 0, .int .i64 0, .slice none 0 0, .int .i64 0, .bool false, .slice none 0 0, .int .i64 0, .slice none 0 0, .int .i64 0] 55:=by rw [hw0];exact At.second W _ _ _
 have x1:=hA.cell 1 rfl;have x2:=hA.cell 2 rfl;have x10:=hA.cell 10 rfl;have xl:=hA.lt
 have HCp:=a6 (fun(w':World) (hb:Below w0.heap.size w0 w')=>b_r W.heap.size p pa pc w' (hp.keep (hb0.trans (hb.mono hb0.size)) (a8)) (hb0.trans (hb.mono hb0.size)).size hpl)
 have HCd:=a6 (fun(w':World) (hb:Below w0.heap.size w0 w')=>b_r W.heap.size d ta tc w' (hd.keep (hb0.trans (hb.mono hb0.size)) (a8)) (hb0.trans (hb.mono hb0.size)).size hdl)
 have HA:=a6 hA;have HB:=a6 hB;have Hb0:=a6 hb0;have Hs0:=a6 hs0;have Hw0:=a6 hw0
 have Hn:=a6 hn;have Ho:=a6 ho
 clear hA hB hb0 hs0 hw0 hn hp hd ho
 go_enter Tryz.func189,Tryz.ntmps189
 go_upto_region 1 with fail
 rw [<- Hw0.o]
 clear Hw0
 go_cut [] (fun wx=>∃ (qa:Option Addr) (qc:Nat) (ra:Option Addr) (rc:Nat) (xa:Option Addr) (xc:Nat),At wx W.heap.size [.int .i64 kd, .slice qa p.length qc, .slice ra d.length rc, .int .i64 pos, .bool l0, .slice a1 m1 c1, .slice a2 m2 c2, .slice a3 m3 c3, .slice oa ol.length oc, .slice none 0 0, .slice xa 0 xc, .bool false, .slice none 0 0, .int .i64 0, .slice none 0 0, .int .i64 0, .bool false, .slice none 0 0, .int .i64 0, .slice none 0 0, .int .i64 0] 55/\At wx (W.heap.size+1) [.int .i64 0, .slice none 0 0, .slice none 0 0, .int .i64 0, .bool false, .slice none 0 0, .slice none 0 0, .slice none 0 0, .slice none 0 0, .slice none 0 0, .slice none 0 0, .bool false, .slice none 0 0, .int .i64 0, .slice none 0 0, .int .i64 0, .bool false, .slice none 0 0, .int .i64 0, .slice none 0 0, .int .i64 0] 55/\RowQ wx (fun b=>W.heap.size+2 <= b) 1 qa p.length qc (p.map (Value.int .i64))/\RowQ wx (fun b=>W.heap.size+2 <= b) 1 ra d.length rc (d.map (Value.int .i64))/\Below W.heap.size W wx)
 case first=>
  go_region_law (first
   | (refine b9 rfl 119 _ _ rfl BZ [.slice pa p.length pc] ?_ _ (HCp.o w0.drew (a7).drew) ?_
      . go_simp
      rintro e w1 ⟨⟨qa,qc,rfl,hq⟩,hbel⟩
      refine⟨_,rfl, ?_⟩
      have Hb1:=a6 (((Below.refl w0.heap.size w0).drew).trans hbel)
      have Hq1:=a6 hq
      have hA1:=HA.o.kept Hb1.o
      have y1:=hA1.cell 1 rfl;have y2:=hA1.cell 2 rfl;have y10:=hA1.cell 10 rfl;have yl:=hA1.lt
      clear hbel hq hA1)
   | (refine b9 rfl 119 _ _ rfl BZ [.slice ta d.length tc] ?_ _ (HCd.o w1 Hb1.o) ?_
      . go_simp
      rintro e w2 ⟨⟨ra,rc,rfl,hq⟩,hbel⟩
      refine⟨_,rfl, ?_⟩
      have Hb2:=a6 (Hb1.o.trans (hbel.mono Hb1.o.size))
      have Hb12:=a6 hbel
      have Hq2:=a6 hq
      have hA2:=HA.o.kept Hb2.o
      have z1:=hA2.cell 1 rfl;have z2:=hA2.cell 2 rfl;have z10:=hA2.cell 10 rfl;have zl:=hA2.lt
      clear hbel hq hA2)
   | (refine b9 rfl 114 _ _ rfl g_Q [.slice none 0 0] ?_ _ (i_C w2) ?_
      . go_simp
      rintro e w3 ⟨⟨xa,xc,rfl⟩,hbel⟩
      refine⟨_,rfl, ?_⟩
      have Hb3:=a6 (Hb2.o.trans (hbel.mono Hb2.o.size))
      have Hb23:=a6 hbel
      have HA3:=a6 (HA.o.kept Hb3.o)
      have t1:=HA3.o.cell 1 rfl;have t2:=HA3.o.cell 2 rfl;have t10:=HA3.o.cell 10 rfl;have tl:=HA3.o.lt
      have tf:=fun j=>Lib.frozen_of_heap HA3.o j
      clear hbel))
  all_goals
   go_wp2_with fail
   go_meet
   case rel=>
    have hs0:=Hs0.o;have hs1:=Hb1.o.size;have hs2:=Hb2.o.size
    have hne:¬ (W.heap.size+2 <= W.heap.size):=by omega
    refine⟨qa,qc,ra,rc,xa,xc,((HA3.o.set 1 _).set 2 _).set 10 _,(((HB.o.kept Hb3.o).set_ne (by omega) _).set_ne (by omega) _).set_ne (by omega) _,aY (aY (aY (((Hq1.o.keep Hb12.o.size (fun b _ hlt=>Hb12.o.block b hlt) (fun _ h _=>h)).keep Hb23.o.size (fun b _ hlt=>Hb23.o.block b hlt) (fun b h _=>by have:w0.heap.size <= b:=h;omega))) hne) hne) hne,aY (aY (aY (Hq2.o.keep Hb23.o.size (fun b _ hlt=>Hb23.o.block b hlt) (fun b h _=>by omega)) hne) hne) hne,((((Hb0.o.trans (Hb3.o.mono Hb0.o.size)).setCell (p:=⟨W.heap.size,1,none⟩) (a8) _).setCell (p:=⟨W.heap.size,2,none⟩) (a8) _).setCell (p:=⟨W.heap.size,10,none⟩) (a8) _)⟩
 case rest=>
  obtain⟨qa,qc,ra,rc,xa,xc,hA,hB,hq,hr,hbel⟩:=hcut
  have x5:=hA.cell 8 rfl;have x6:=hA.cell 9 rfl;have e4:=hA.cell 4 rfl;have e5:=hA.cell 5 rfl;have e6:=hA.cell 6 rfl;have e7:=hA.cell 7 rfl;have xl:=hA.lt
  have HCo:=a6 (fun(w':World) (hb:Below wc.heap.size wc w')=>yY W.heap.size ol.length oa oc _ w' (Ho.o.keep (hbel.trans (hb.mono hbel.size)) (a8)) (hbel.trans (hb.mono hbel.size)).size hol)
  have HCn:=a6 (fun(w':World)=>yY 0 0 none 0 [] w' (RowA.empty _ _ _) (Nat.zero_le _) (by omega))
  have HCy:=a6 (fun(w':World) (hb:Below wc.heap.size wc w')=>a_N nd.wt nd (.agg #[.bool l0, .slice a1 m1 c1, .slice a2 m2 c2, .slice a3 m3 c3]) w' (a8) hbig (by obtain⟨cs,he,hc⟩:=Hn.o;exact⟨cs,he,dJ.keep (hbel.trans (hb.mono hbel.size)) (hbel.trans (hb.mono hbel.size)).size _ _ hc⟩))
  have HA:=a6 hA;have HB:=a6 hB;have Hq:=a6 hq;have Hr:=a6 hr;have Hbel:=a6 hbel
  clear hA hB hq hr hbel Hn Ho HCp HCd x1 x2 x10
  go_upto_region 2 with fail
  go_cut [] (fun wx=>∃v4 v5 v6 v7 v8 v9,At wx W.heap.size [.int .i64 kd, .slice qa p.length qc, .slice ra d.length rc, .int .i64 pos,v4,v5,v6,v7,v8,v9, .slice xa 0 xc, .bool false, .slice none 0 0, .int .i64 0, .slice none 0 0, .int .i64 0, .bool false, .slice none 0 0, .int .i64 0, .slice none 0 0, .int .i64 0] 55/\At wx (W.heap.size+1) [.int .i64 0, .slice none 0 0, .slice none 0 0, .int .i64 0, .bool false, .slice none 0 0, .slice none 0 0, .slice none 0 0, .slice none 0 0, .slice none 0 0, .slice none 0 0, .bool false, .slice none 0 0, .int .i64 0, .slice none 0 0, .int .i64 0, .bool false, .slice none 0 0, .int .i64 0, .slice none 0 0, .int .i64 0] 55/\RowQ wx (fun b=>W.heap.size+2 <= b) 1 qa p.length qc (p.map (Value.int .i64))/\RowQ wx (fun b=>W.heap.size+2 <= b) 1 ra d.length rc (d.map (Value.int .i64))/\Below W.heap.size W wx/\ [v4,v5,v6,v7,v8,v9].all (·.oneCell')=true/\(∃a n c,v8= .slice a n c)/\(∃a n c,v9= .slice a n c))
  case first=>
   go_region_law (first
    | (refine b9 rfl 113 _ _ rfl c_w [.slice oa ol.length oc] ?_ _ (HCo.o wc.drew (a7).drew) ?_
       . go_simp
       rintro e w1 ⟨u5,rfl,hown,hbel⟩
       obtain⟨ua,ub,rfl, -⟩:=cK hown (m7 _)
       refine⟨_,rfl, ?_⟩
       have Hb1:=a6 (((Below.refl wc.heap.size wc).drew).trans hbel)
       have hA1:=HA.o.kept Hb1.o
       have y5:=hA1.cell 8 rfl;have y6:=hA1.cell 9 rfl;have y4:=hA1.cell 4 rfl;have y7:=hA1.cell 5 rfl;have y8:=hA1.cell 6 rfl;have y9:=hA1.cell 7 rfl;have yl:=hA1.lt
       clear hbel hown hA1)
    | (refine b9 rfl 113 _ _ rfl c_w [.slice none 0 0] ?_ _ (HCn.o w1) ?_
       . go_simp
       rintro e w2 ⟨u6,rfl,hown,hbel⟩
       obtain⟨uc,ud,rfl, -⟩:=cK hown (by intro u hu;cases hu)
       refine⟨_,rfl, ?_⟩
       have Hb2:=a6 (Hb1.o.trans (hbel.mono Hb1.o.size))
       have hA2:=HA.o.kept Hb2.o
       have z5:=hA2.cell 8 rfl;have z6:=hA2.cell 9 rfl;have z4:=hA2.cell 4 rfl;have z7:=hA2.cell 5 rfl;have z8:=hA2.cell 6 rfl;have z9:=hA2.cell 7 rfl;have zl:=hA2.lt
       clear hbel hown hA2)
    | (refine b9 rfl 61 _ _ rfl f_z [.agg #[.bool l0, .slice a1 m1 c1, .slice a2 m2 c2, .slice a3 m3 c3]] ?_ _ (HCy.o w2 Hb2.o) ?_
       . go_simp
       rintro e w3 ⟨cs,rfl,hno,hbel⟩
       obtain⟨lk,s1,g1,h1,s2,g2,h2,s3,g3,h3,rfl⟩:=hno.form
       refine⟨_,rfl, ?_⟩
       have Hb3:=a6 (Hb2.o.trans (hbel.mono Hb2.o.size))
       have HA3:=a6 (HA.o.kept Hb3.o)
       have t5:=HA3.o.cell 8 rfl;have t6:=HA3.o.cell 9 rfl;have t4:=HA3.o.cell 4 rfl;have t7:=HA3.o.cell 5 rfl;have t8:=HA3.o.cell 6 rfl;have t9:=HA3.o.cell 7 rfl;have tl:=HA3.o.lt
       have tf:=fun j=>Lib.frozen_of_heap HA3.o j
       clear hbel hno))
   all_goals
    go_wp2_with fail
    go_meet
    case rel=>
     have hs0:=Hs0.o
     have hw:=(Hbel.o.trans (Hb3.o.mono Hbel.o.size))
     have hne:¬ (W.heap.size+2 <= W.heap.size):=by omega
     refine⟨_,_,_,_,_,_,(((((HA3.o.set 8 _).set 9 _).set 4 _).set 5 _).set 6 _).set 7 _,((((((HB.o.kept Hb3.o).set_ne (by omega) _).set_ne (by omega) _).set_ne (by omega) _).set_ne (by omega) _).set_ne (by omega) _).set_ne (by omega) _,aY (aY (aY (aY (aY (aY (Hq.o.since Hb3.o) hne) hne) hne) hne) hne) hne,aY (aY (aY (aY (aY (aY (Hr.o.since Hb3.o) hne) hne) hne) hne) hne) hne,(((((hw.setCell (p:=⟨W.heap.size,8,none⟩) (a8) _).setCell (p:=⟨W.heap.size,9,none⟩) (a8) _).setCell (p:=⟨W.heap.size,4,none⟩) (a8) _).setCell (p:=⟨W.heap.size,5,none⟩) (a8) _).setCell (p:=⟨W.heap.size,6,none⟩) (a8) _).setCell (p:=⟨W.heap.size,7,none⟩) (a8) _,rfl,⟨_,_,_,rfl⟩,⟨_,_,_,rfl⟩⟩
  case rest=>
   obtain⟨v4,v5,v6,v7,v8,v9,hA,hB,hq,hr,hbel,hone,h8,h9⟩:=hcut
   have Hone:=a6 hone;have H8:=a6 h8;have H9:=a6 h9
   clear hone h8 h9
   have Hs2:=a6 (show W.heap.size+1 < wc.heap.size from hB.lt)
   have HA:=a6 hA;have HB:=a6 hB;have Hq:=a6 hq;have Hr:=a6 hr;have Hbel:=a6 hbel
   clear hA hB hq hr hbel
   go_wp2_with fail
   go_loopg [43,4] 4 (fun g i _ wr=>∃ (j:Nat) (g1:Option Addr) (h1:Nat) (g2:Option Addr) (h2:Nat) (g3:Option Addr) (h3:Nat) (g4:Option Addr) (h4:Nat),i= .int .i64 j/\j+g=4/\(j < 1 ->g1=none/\h1=0)/\(j < 2 ->g2=none/\h2=0)/\(j < 3 ->g3=none/\h3=0)/\(j < 4 ->g4=none/\h4=0)/\
    At wr W.heap.size [.int .i64 kd, .slice qa p.length qc, .slice ra d.length rc, .int .i64 pos,v4,v5,v6,v7,v8,v9, .slice xa 0 xc, .bool false, .slice g1 0 h1, .int .i64 0, .slice g2 0 h2, .int .i64 0, .bool false, .slice g3 0 h3, .int .i64 0, .slice g4 0 h4, .int .i64 0] 55/\At wr (W.heap.size+1) [.int .i64 0, .slice none 0 0, .slice none 0 0, .int .i64 0, .bool false, .slice none 0 0, .slice none 0 0, .slice none 0 0, .slice none 0 0, .slice none 0 0, .slice none 0 0, .bool false, .slice none 0 0, .int .i64 0, .slice none 0 0, .int .i64 0, .bool false, .slice none 0 0, .int .i64 0, .slice none 0 0, .int .i64 0] 55/\At wr wc.heap.size [.pointer (some ⟨W.heap.size,12,none⟩), .pointer (some ⟨W.heap.size,14,none⟩), .pointer (some ⟨W.heap.size,17,none⟩), .pointer (some ⟨W.heap.size,19,none⟩)] 273/\RowQ wr (fun b=>W.heap.size+2 <= b) 1 qa p.length qc (p.map (Value.int .i64))/\RowQ wr (fun b=>W.heap.size+2 <= b) 1 ra d.length rc (d.map (Value.int .i64))/\Below W.heap.size W wr)
   case atStart=>exact⟨0,none,0,none,0,none,0,none,0,rfl,rfl,fun _=>⟨rfl,rfl⟩,fun _=>⟨rfl,rfl⟩,fun _=>⟨rfl,rfl⟩,fun _=>⟨rfl,rfl⟩,HA.o.alloc _,HB.o.alloc _,At.fresh _ _ _,Hq.o.since (aX _ _),Hr.o.since (aX _ _),Hbel.o.trans ((aX _ _).mono Hbel.o.size)⟩
   case round=>
    obtain⟨j,g1,h1,g2,h2,g3,h3,g4,h4,rfl,hg,i1,i2,i3,i4,hA,hB,hP,hq,hr,hbr⟩:=hrel
    have HNb:=a6 (show W.heap.size+1 < wc.heap.size from Hs2.o)
    clear HA HB Hq Hr
    have H1:=a6 i1;have H2:=a6 i2;have H3:=a6 i3;have H4:=a6 i4
    have HA:=a6 hA;have HB:=a6 hB;have HP:=a6 hP;have Hq:=a6 hq;have Hr:=a6 hr;have Hbr:=a6 hbr
    clear i1 i2 i3 i4 hA hB hP hq hr hbr
    have hj:j=0∨j=1∨j=2∨j=3∨j=4:=by omega
    rcases hj with rfl | rfl | rfl | rfl | rfl
    . obtain ⟨rfl,rfl⟩:=H1.o (by omega)
      have p0:=HP.o.cell 0 rfl;have pl:=HP.o.lt
      have c0:=HA.o.cell 12 rfl;have al:=HA.o.lt
      go_wp2_with fail
      refine(C1 wr).mono ?_
      rintro e w4 ⟨⟨ga,gc,rfl⟩,hb4⟩
      have HA4:=a6 (HA.o.kept hb4)
      have k0:=HA4.o.cell 12 rfl;have kl:=HA4.o.lt
      have kf:=fun j=>Lib.frozen_of_heap HA4.o j
      have Hb4:=a6 hb4
      clear hb4 p0 pl c0 al
      go_wp2_with fail
      go_roundg 3
      case measure=>omega
      case rel=>
       have hne:¬ (W.heap.size+2 <= W.heap.size):=by omega
       have hNb:=HNb.o
       exact⟨1,ga,gc,g2,h2,g3,h3,g4,h4,rfl,by omega,fun h=>absurd h (by omega),fun h=>H2.o (by omega),fun h=>H3.o (by omega),fun h=>H4.o (by omega),HA4.o.set 12 _,(HB.o.kept Hb4.o).set_ne (by omega) _,(HP.o.kept Hb4.o).set_ne (by omega) _,aY (Hq.o.since Hb4.o) hne,aY (Hr.o.since Hb4.o) hne,(Hbr.o.trans (Hb4.o.mono Hbr.o.size)).setCell (p:=⟨W.heap.size,12,none⟩) (a8) _⟩
    . obtain ⟨rfl,rfl⟩:=H2.o (by omega)
      have p0:=HP.o.cell 1 rfl;have pl:=HP.o.lt
      have c0:=HA.o.cell 14 rfl;have al:=HA.o.lt
      go_wp2_with fail
      refine(C1 wr).mono ?_
      rintro e w4 ⟨⟨ga,gc,rfl⟩,hb4⟩
      have HA4:=a6 (HA.o.kept hb4)
      have k0:=HA4.o.cell 14 rfl;have kl:=HA4.o.lt
      have kf:=fun j=>Lib.frozen_of_heap HA4.o j
      have Hb4:=a6 hb4
      clear hb4 p0 pl c0 al
      go_wp2_with fail
      go_roundg 2
      case measure=>omega
      case rel=>
       have hne:¬ (W.heap.size+2 <= W.heap.size):=by omega
       have hNb:=HNb.o
       exact⟨2,g1,h1,ga,gc,g3,h3,g4,h4,rfl,by omega,fun h=>absurd h (by omega),fun h=>absurd h (by omega),fun h=>H3.o (by omega),fun h=>H4.o (by omega),HA4.o.set 14 _,(HB.o.kept Hb4.o).set_ne (by omega) _,(HP.o.kept Hb4.o).set_ne (by omega) _,aY (Hq.o.since Hb4.o) hne,aY (Hr.o.since Hb4.o) hne,(Hbr.o.trans (Hb4.o.mono Hbr.o.size)).setCell (p:=⟨W.heap.size,14,none⟩) (a8) _⟩
    . obtain ⟨rfl,rfl⟩:=H3.o (by omega)
      have p0:=HP.o.cell 2 rfl;have pl:=HP.o.lt
      have c0:=HA.o.cell 17 rfl;have al:=HA.o.lt
      go_wp2_with fail
      refine(C1 wr).mono ?_
      rintro e w4 ⟨⟨ga,gc,rfl⟩,hb4⟩
      have HA4:=a6 (HA.o.kept hb4)
      have k0:=HA4.o.cell 17 rfl;have kl:=HA4.o.lt
      have kf:=fun j=>Lib.frozen_of_heap HA4.o j
      have Hb4:=a6 hb4
      clear hb4 p0 pl c0 al
      go_wp2_with fail
      go_roundg 1
      case measure=>omega
      case rel=>
       have hne:¬ (W.heap.size+2 <= W.heap.size):=by omega
       have hNb:=HNb.o
       exact⟨3,g1,h1,g2,h2,ga,gc,g4,h4,rfl,by omega,fun h=>absurd h (by omega),fun h=>absurd h (by omega),fun h=>absurd h (by omega),fun h=>H4.o (by omega),HA4.o.set 17 _,(HB.o.kept Hb4.o).set_ne (by omega) _,(HP.o.kept Hb4.o).set_ne (by omega) _,aY (Hq.o.since Hb4.o) hne,aY (Hr.o.since Hb4.o) hne,(Hbr.o.trans (Hb4.o.mono Hbr.o.size)).setCell (p:=⟨W.heap.size,17,none⟩) (a8) _⟩
    . obtain ⟨rfl,rfl⟩:=H4.o (by omega)
      have p0:=HP.o.cell 3 rfl;have pl:=HP.o.lt
      have c0:=HA.o.cell 19 rfl;have al:=HA.o.lt
      go_wp2_with fail
      refine(C1 wr).mono ?_
      rintro e w4 ⟨⟨ga,gc,rfl⟩,hb4⟩
      have HA4:=a6 (HA.o.kept hb4)
      have k0:=HA4.o.cell 19 rfl;have kl:=HA4.o.lt
      have kf:=fun j=>Lib.frozen_of_heap HA4.o j
      have Hb4:=a6 hb4
      clear hb4 p0 pl c0 al
      go_wp2_with fail
      go_roundg 0
      case measure=>omega
      case rel=>
       have hne:¬ (W.heap.size+2 <= W.heap.size):=by omega
       have hNb:=HNb.o
       exact⟨4,g1,h1,g2,h2,g3,h3,ga,gc,rfl,by omega,fun h=>absurd h (by omega),fun h=>absurd h (by omega),fun h=>absurd h (by omega),fun h=>absurd h (by omega),HA4.o.set 19 _,(HB.o.kept Hb4.o).set_ne (by omega) _,(HP.o.kept Hb4.o).set_ne (by omega) _,aY (Hq.o.since Hb4.o) hne,aY (Hr.o.since Hb4.o) hne,(Hbr.o.trans (Hb4.o.mono Hbr.o.size)).setCell (p:=⟨W.heap.size,19,none⟩) (a8) _⟩
    . have hl:=At.load (P:=Tryz.prog) HA.o Tryz.underlying55 rfl (by kernel_rfl)
      simp [go_sem]at hl
      have hone: [.int .i64 kd, .slice qa p.length qc, .slice ra d.length rc, .int .i64 pos,v4,v5,v6,v7,v8,v9, .slice xa 0 xc, .bool false, .slice g1 0 h1, .int .i64 0, .slice g2 0 h2, .int .i64 0, .bool false, .slice g3 0 h3, .int .i64 0, .slice g4 0 h4, .int .i64 0].all (·.oneCell')=true:=by
       have h:=Hone.o
       simp only [List.all_cons,List.all_nil,Bool.and_true,Bool.and_eq_true]at h⊢
       exact⟨rfl,rfl,rfl,rfl,h.1,h.2.1,h.2.2.1,h.2.2.2.1,h.2.2.2.2.1,h.2.2.2.2.2,rfl,rfl,rfl,rfl,rfl,rfl,rfl,rfl,rfl,rfl,rfl⟩
      obtain⟨w5,hst,hA5,hg5⟩:=At.store (P:=Tryz.prog) HB.o (cs':= [.int .i64 kd, .slice qa p.length qc, .slice ra d.length rc, .int .i64 pos,v4,v5,v6,v7,v8,v9, .slice xa 0 xc, .bool false, .slice g1 0 h1, .int .i64 0, .slice g2 0 h2, .int .i64 0, .bool false, .slice g3 0 h3, .int .i64 0, .slice g4 0 h4, .int .i64 0]) rfl hone (by kernel_rfl)
      simp [go_sem]at hst
      have hN1:W.heap.size <= W.heap.size+1:=by omega
      have T1:=a6 hA5
      have T2:=a6 (Hbr.o.grown hg5 Hbr.o.size (fun k e=>by cases e;exact hN1))
      have T3:=a6 (f_A Hq.o hg5 (by omega))
      have T4:=a6 (f_A Hr.o hg5 (by omega))
      clear hA5 hg5 hone
      go_wp2_with fail
      have hlr:=At.load (P:=Tryz.prog) T1.o Tryz.underlying55 rfl (by kernel_rfl)
      simp [go_sem]at hlr
      refine bodyPost_ret (v:= .agg #[.int .i64 kd, .slice qa p.length qc, .slice ra d.length rc, .int .i64 pos,v4,v5,v6,v7,v8,v9, .slice xa 0 xc, .bool false, .slice g1 0 h1, .int .i64 0, .slice g2 0 h2, .int .i64 0, .bool false, .slice g3 0 h3, .int .i64 0, .slice g4 0 h4, .int .i64 0]) (by simp [results,Tryz.results189,go_sem,hlr]) rfl ?_
      exact⟨⟨qa,qc,ra,rc,xa,xc,v4,v5,v6,v7,v8,v9,g1,g2,g3,g4,h1,h2,h3,h4,rfl,T3.o.keep (a8) (fun _ _ _=>rfl) (fun b hb _=>by omega),T4.o.keep (a8) (fun _ _ _=>rfl) (fun b hb _=>by omega),Hone.o,H8.o,H9.o⟩,T2.o⟩
end Go.Proofs.YtmadpclcmjahoaaGreatDoor
