/- Parts of the proof: CC17. -/
import Derived.Test.YtmadpclcmjahoaaGreatDoorCC16
import Derived.Laws.OwnMore
set_option linter.unusedVariables false
set_option linter.unusedSimpArgs false
set_option maxHeartbeats 8000000
set_option maxRecDepth 100000
namespace Go.Proofs.YtmadpclcmjahoaaGreatDoor
open Go.RowKit Go.Redl
theorem c_H:(Tryz.prog.info? 27).map (fun i=>(i.zero,i.size,i.bytes))=some (some (.agg #[.string ⟨#[]⟩,OY, .string ⟨#[]⟩,OY, .string ⟨#[]⟩,(),OY, .string ⟨#[]⟩]),8,112):=P3
theorem r_V (a:Option Addr) (n c:Nat) (css:List Value) (e1 e3 e5 e8:List UInt8) (e2 e4 e7:Int) (ea:Option Addr) (en ec:Nat) (v9 v10 v11 v12 v13 v14 v15:Value) (W:World) (hr:RowA W W 8 a n c css) (hn:n <= 100000000):
 Calls Tryz.prog 88 #[.agg #[(a,n,c),aZ e1,e2,aZ e3,e4,aZ e5,(ea,en,ec),e7,aZ e8,v9,v10,v11,v12,v13,v14,v15]] W (vX W 27 8 (n+1) (css ++ [aZ e1, .int .i64 e2,aZ e3, .int .i64 e4,aZ e5, .slice ea en ec, .int .i64 e7,aZ e8])):=by
 obtain⟨w0,p⟩:∃w0,w0=W.alloc (Obj.cells #[(a,n,c),aZ e1,e2,aZ e3,e4,aZ e5,(ea,en,ec),e7,aZ e8,v9,v10,v11,v12,v13,v14,v15] 30):=⟨_,rfl⟩;have j:Below W W w0:=by rw [p];exact b7 _ _
 have hB:At w0 W [(a,n,c),aZ e1,e2,aZ e3,e4,aZ e5,(ea,en,ec),e7,aZ e8,v9,v10,v11,v12,v13,v14,v15] 30:=by rw [p];exact At.fresh _ _ _
 have HR:=a6 (fun(w1:World) (hb:Below w0 w0 w1)=>hr.keep (j.trans (hb.mono j.size)) (j.trans (hb.mono j.size)).size);have r:=a6 (fun(w':World) (h:At w' W [(a,n,c),aZ e1,e2,aZ e3,e4,aZ e5,(ea,en,ec),e7,aZ e8,v9,v10,v11,v12,v13,v14,v15] 30)=>(show w'.cell? W=some (.slice a n c)/\w'.cell? (P0 W 1)=some (aZ e1)/\w'.cell? (P0 W 2)=some (.int .i64 e2)/\w'.cell? (P0 W 3)=some (aZ e3)/\w'.cell? (P0 W 4)=some (.int .i64 e4)/\w'.cell? (P0 W 5)=some (aZ e5)/\w'.cell? (P0 W 6)=some (.slice ea en ec)/\w'.cell? (P0 W 7)=some (.int .i64 e7)/\w'.cell? (P0 W 8)=some (aZ e8)by
  obtain⟨x0,x1,x2,x3,x4,x5,x6,x7,x8, -⟩:=h.f16.1;exact⟨x0,x1,x2,x3,x4,x5,x6,x7,x8⟩))
 have y:=a6 (fun(w':World) (hb:Below w0 w0 w')=>r.o w' (hB.kept hb));have HB:=a6 hB;have s:=a6 p;have q:=a6 j;have z:=a6 hr.one
 have hsz:W.heap.size+1 <= w0.heap.size:=hB.lt;clear p j hB hr;go_enter Tryz.func88,Tryz.ntmps88;go_upto_region 1 with fail;rw [<- s.o];clear s;go_region_held3 (fun w'=>w'.cell? W=some (.slice a n c)/\w'.cell? (P0 W 1)=some (aZ e1)/\w'.cell? (P0 W 2)=some (.int .i64 e2)/\w'.cell? (P0 W 3)=some (aZ e3)/\w'.cell? (P0 W 4)=some (.int .i64 e4)/\w'.cell? (P0 W 5)=some (aZ e5)/\w'.cell? (P0 W 6)=some (.slice ea en ec)/\w'.cell? (P0 W 7)=some (.int .i64 e7)/\w'.cell? (P0 W 8)=some (aZ e8)) (first | with_reducible exact t.o | (refine y.o _ P7))
  (first
  | (refine N6 rfl _ _ 22 rfl _ 27 _ 8 112 Tryz.underlying22 c_H rfl P9 () 0 [] ?_ (World.ownsRow_nil _ _ _ _) a n c _ _ ?_ (HR.o _ P1) ?_ ?_ (a8) ?_
     . go_simp
     . go_simp
     . unfold maxLen;omega
     . omega
     intro v1 w1 l m;have i:=NQ m
     have A:=a6 i.size;have d:=a6 (Below.and (w0:=w0) P1 i);rw [O5,List.nil_append]at l;have g:=a6 (q9 (base:=W.heap.size+1) l P8)
     have v:=a6 (HB.o.kept d.o)
     first
      | (refine At.lay (N:= ?_) (cs:= [aZ e1,e2,aZ e3,e4,aZ e5,(ea,en,ec),e7,aZ e8]) (T:=27) (At.kept ?_ i) ?_
         rotate_left
         . with_reducible (repeat (first | exact At.second _ _ _ _ | exact At.fresh _ _ _ | refine At.drew ?_ | refine At.alloc ?_ _))
         intro w)
      | skip
     clear l m i)
  | (refine N6 rfl _ _ 22 rfl (W.heap.size+1) 27 _ 8 112 Tryz.underlying22 c_H rfl P9 v1 n css ?_ (kQ g.o (b7 _ _)) w1 1 1 _ [aZ e1,e2,aZ e3,e4,aZ e5,(ea,en,ec),e7,aZ e8] ?_ (RowQ.row (ok:=fun _=>True) (BQ (T:=27) TK 1 8 rfl P2 W6 trivial)) ?_ ?_ ?_ ?_
     . go_simp
     . go_simp
     . unfold maxLen;omega
     . omega
     . have:=d.o.size;simp;omega
     intro v2 w2 f b;have o:=a6 f
     have x:=a6 ((show Below W W _ from q.o.trans ((show Below w0 w0 _ by(with_reducible (repeat (first | exact d.o | exact a7 | refine aK ?_ | refine aQ ?_ ?_ _ | refine aV ?_ ?_ _)) <;> (first | exact a8 | exact d.o.size | (have:=d.o.size;simp [World.setCell];omega) | (simp <;> omega) | omega))).mono q.o.size)).grown b (by have:=d.o.size;simp;omega) (fun k hk=>by have:=(g.o.lt k hk).1;omega));have t:=a6 (r.o _ (At.grown (show At _ W [(a,n,c),aZ e1,e2,aZ e3,e4,aZ e5,(ea,en,ec),e7,aZ e8,v9,v10,v11,v12,v13,v14,v15] 30 by with_reducible (repeat (first | exact v.o | exact At.second _ _ _ _ | exact At.fresh _ _ _ | refine At.drew ?_ | refine At.alloc ?_ _))) b (fun e=>by have:=(g.o.lt _ e).1;omega)));clear f b)
  | (refine N6 rfl _ _ 22 rfl (W.heap.size+1) 27 _ 8 112 Tryz.underlying22 c_H rfl P9 v1 n css ?_ g.o w0 1 1 _ [aZ e1,e2,aZ e3,e4,aZ e5,(ea,en,ec),e7,aZ e8] ?_ (RowQ.row (ok:=fun _=>True) (BQ (T:=27) TK 1 8 rfl P2 W6 trivial)) ?_ ?_ ?_ ?_
     . go_simp
     . go_simp
     . unfold maxLen;omega
     . omega
     . have:=d.o.size;simp;omega
     intro v2 w2 f b;have o:=a6 f
     have x:=a6 ((show Below W W _ from q.o.trans ((show Below w0 w0 _ by(with_reducible (repeat (first | exact d.o | exact a7 | refine aK ?_ | refine aQ ?_ ?_ _ | refine aV ?_ ?_ _)) <;> (first | exact a8 | exact d.o.size | (have:=d.o.size;simp [World.setCell];omega) | (simp <;> omega) | omega))).mono q.o.size)).grown b (by have:=d.o.size;simp;omega) (fun k hk=>by have:=(g.o.lt k hk).1;omega));have t:=a6 (r.o _ (At.grown (show At _ W [(a,n,c),aZ e1,e2,aZ e3,e4,aZ e5,(ea,en,ec),e7,aZ e8,v9,v10,v11,v12,v13,v14,v15] 30 by with_reducible (repeat (first | exact v.o | exact At.second _ _ _ _ | exact At.fresh _ _ _ | refine At.drew ?_ | refine At.alloc ?_ _))) b (fun e=>by have:=(g.o.lt _ e).1;omega)));clear f b)
  )
 all_goals
  go_wp2_with fail;go_ret;exact⟨_,rfl,q9 o.o (Nat.le_succ _),x.o⟩
theorem i9.snoc {w:World} {B:Nat} {r:bK} {c2:List Value} (hr:I5 w B r c2):∀ {rs:List bK} {css:List Value},i9 w B rs css ->i9 w B (rs ++ [r]) (css ++ c2)
 | [],css,h=>by
   rw [show css= []from h];exact⟨c2, [],by simp,hr,rfl⟩
 | q::rs,css,h=>by
   obtain⟨c1,c3,rfl,h2,h3⟩:=h;exact⟨c1,c3 ++ c2,by simp,h2,i9.snoc hr h3⟩
theorem r_W {s:b5} (hw:s.wt <= 100000000):∀j (hj:j < (s.rules ++ [s.els]).length),(s.rules ++ [s.els])[j].kids.length <= 100000000:=by
 intro j hj;have hm:=NY hj
 have h:(s.rules ++ [s.els])[j].wt <= s.wt:=by
  unfold b5.wt;rcases OQ hm with h | h
  . have:=E7 h;omega
  rw [O9 h];omega
 have:=M0 (s.rules ++ [s.els])[j]
 omega
def b_W (z:Int) (p:yY):Int:=wrap64 (z+wrap64 ((wrap64 ((p.1.length:Int)+(p.2.2.length:Int))).tdiv 64))
def l_a (y:Int) (q:bK):Int:=wrap64 (y+wrap64 (1+(q.kids.length:Int)+wrap64 ((wrap64 (wrap64 (wrap64 ((q.type.length:Int)+(q.text.2.length:Int))+(q.other.2.length:Int))+(q.fillT.length:Int))).tdiv 64)))
def a_U (y:Int) (q:bK):Int:=q.kids.foldl b_W (l_a y q)
def J7 (l:List bK):Bool:=decide (l.foldl a_U 0 <= 80)
theorem i_h (s:b5) (v:Value) (W:World) (hw:s.wt <= 100000000) (hv:SchemaV W W s v):
 Calls Tryz.prog 34 #[v] W (fun e w'=>e= .returned (J7 (s.rules ++ [s.els]))/\Below W W w'):=by
 have H:s.rules.length <= 100000000 - 1:=by have:=mX s.rules;have:1 <= s.els.wt:=by { unfold bK.wt;omega };unfold b5.wt at hw;omega
 obtain⟨a,c,css,ea,ec,o0,o1,o2,o3,o4,o5,rfl,h1,h2,h3, -⟩:=hv.open;have t:=r_W hw;obtain⟨rs,⟨ty,⟨td,tt⟩,⟨od,ot⟩,kids,fill,ft⟩,order,scap⟩:=s;simp only at H h1 h2 h3 t⊢;obtain⟨w0,u⟩:∃w0,w0=W.alloc (Obj.cells #[(a,rs.length,c),aZ ty,td,aZ tt,od,aZ ot,(ea,kids.length,ec),fill,aZ ft,o0,o1,o2,o3,o4,o5,scap] 30):=⟨_,rfl⟩;have w:Below W W w0:=t_J
 have hA:At w0 W [(a,rs.length,c),aZ ty,td,aZ tt,od,aZ ot,(ea,kids.length,ec),fill,aZ ft,o0,o1,o2,o3,o4,o5,scap] 30:=by rw [u];exact At.fresh _ _ _
 have HC:=a6 (r_V a rs.length c css ty tt ot ft td od fill ea kids.length ec o0 o1 o2 o3 o4 o5 scap w0 (h1.keep w w.size) P2);have HR:=a6 (fun(w':World) (hb:Below W W w')=>i9.snoc (r:=⟨ty,(td,tt),(od,ot),kids,fill,ft⟩) (c2:= [aZ ty,td,aZ tt,od,aZ ot,(ea,kids.length,ec),fill,aZ ft]) (⟨ea,ec,rfl,h3.keep hb hb.size⟩) (i9.keep hb hb.size h2));have d:=a6 w;have I:=a6 u
 obtain⟨L,hL⟩:∃L:List bK,L=rs ++ [⟨ty,(td,tt),(od,ot),kids,fill,ft⟩]:=⟨_,rfl⟩;have J:L.length=rs.length+1:=by rw [hL];simp
 rw [<- hL]at HR t⊢;obtain⟨T,hT⟩:∃T,T=L.foldl a_U 0:=⟨_,rfl⟩;have HT:=a6 hT;have HF:=a6 (show J7 L=decide (T <= 80)by rw [hT];rfl);have K:=a6 t;have A:=a6 J
 obtain⟨⟨x0,x1,x2,x3,x4,x5,x6,x7,x8,x9,x10,x11,x12,x13,x14,x15⟩, -,xl⟩:=hA.f16;clear hw hv h1 h2 h3 w u hA hL J t hT;go_enter Tryz.func34,Tryz.ntmps34;go_upto_region 1 with fail;rw [<- I.o];clear I;go_wp2_with fail;refine HC.o.mono ?_;rintro e w1 ⟨v1,rfl,C,l⟩;have E:=HR.o w1 (d.o.trans (l.mono d.o.size))
 obtain⟨qa,qc,rfl,hq⟩:=nV C (i9.one E);have Hq:=a6 hq.row;have O:=a6 E
 have P:=a6 (d.o.trans (l.mono d.o.size));have Q:=a6 (d.o.trans (l.mono d.o.size)).size;clear HC HR C l E hq x0 x1 x2 x3 x4 x5 x6 x7 x8 x9 x10 x11 x12 x13 x14 x15 xl d;rw [<- A.o]at Hq;rw [<- A.o];have V:L.length <= 100000000:=by have:=A.o;omega
 clear A H;go_wp2_with fail
 go_loopg [3,11] L.length (fun g x i wr=>∃ (k:Nat) (y:Int),x= .int .i64 y/\i= .int .i64 k/\k+g=L.length/\(L.drop k).foldl a_U y=T/\Below w1 w1 wr)
 case atStart=>exact⟨0,0,rfl,rfl,by omega,HT.o.symm,a7⟩
 case round=>
  obtain⟨k,y,rfl,rfl,hg,f,h⟩:=hrel;have n:=a6 f;have F:=a6 h
  by_cases G:k < L.length
  . have U:(k:Int) < L.length:=P2
    obtain⟨b,off,ra,rc,rfl, -,M,g0,g1,g2,g3,g4,g5,g6,g7⟩:=l_2 (Hq.o.keep h h.size) (i9.keep h h.size O.o) k G;have R:=K.o k G;have N:=a6 (fun(w':World) (hb:Below wr wr w')=>M.keep hb hb.size);rw [NX G,List.foldl_cons]at f;have n:=a6 f
    clear f;generalize L[k]=q at n g0 g1 g2 g3 g4 g5 g6 g7 N R;obtain⟨Y,hY⟩:∃Y,Y=a_U y q:=⟨_,rfl⟩;rw [<- hY]at n;have HY:=a6 hY
    clear h M K hY;go_wp2_with fail
    go_loopg [3,43] q.kids.length (fun g x i w2=>∃ (j:Nat) (z:Int),x= .int .i64 z/\i= .int .i64 j/\j+g=q.kids.length/\(q.kids.drop j).foldl b_W z=Y/\Below wr wr w2)
    case atStart=>exact⟨0,_,rfl,rfl,by omega,HY.o.symm,b7 _ _⟩
    case round=>
     obtain⟨j,z,rfl,rfl,X,o,m⟩:=hrel;have p:=a6 m
     by_cases D:j < q.kids.length
     . have S:(j:Int) < q.kids.length:=P2
       obtain⟨b2,off2,rfl, -,p0,p1,p2⟩:=(N.o _ m).pair_at j D;rw [NX D,List.foldl_cons]at o;have B:=a6 o
       generalize q.kids[j]=pr at B p0 p1 p2;clear m o;go_wp2_with fail
       go_roundg (q.kids.length - (j+1))
       case measure=>omega
       case rel=>exact⟨j+1,_,rfl,by go_num,by omega,B.o,p.o.alloc p.o.size _⟩
     obtain rfl:j=q.kids.length:=P2
     rw [List.drop_length,List.foldl_nil]at o;have B:=a6 o
     clear m o;go_wp2_with fail
     go_roundg (L.length - (k+1))
     case measure=>omega
     case rel=>exact⟨k+1,_,rfl,by go_num,by omega,(congrArg (fun x=>(L.drop (k+1)).foldl a_U x) B.o).trans n.o,F.o.trans (p.o.mono F.o.size)⟩
  obtain rfl:k=L.length:=P2
  rw [List.drop_length,List.foldl_nil]at f;have n:=a6 f
  clear h f;go_wp2_with fail;go_ret;exact⟨bJ (HF.o.trans (by rw [<- n.o])).symm,P.o.trans (F.o.mono Q.o)⟩
theorem GY {P:Program} {ops:Array Oper} {o:Oper} {a:Act} {w:World} {K:Act ->World ->Prop} {Q:Exit ->Act ->World ->Prop} {E:Prop}
 (hw:Region.wanted o (yielded ops a.tmps)=true) (f:FuncId) (args:Array Operand) (tys:Array TypeId) (ho:o.op= .call { callee:= .value (.func f),args:=args,argTypes:=tys })
 (he:∀args w,(callFunc f args).run P w= .ok (.enter f args) w) (vals:List Value) (hv:args.toList.map a.eval=vals) (R:Ending ->World ->Prop) (hC:Calls P f vals.toArray w R)
 (h:∀e w',R e w' ->∃v,e= .returned v/\K (a.put o.dst v) w'):if Region.wanted o (yielded ops a.tmps)=true then Oper.wp P o a w K Q else E:=by
 rw [if_pos hw];unfold Oper.wp;have b:args.map a.eval=vals.toArray:=VX
 have hr:(execOp a.eval o).run P w= .ok (.enter f vals.toArray) w:=by
  simp [execOp,ho,resolve,invoke,Act.eval,Deferred.ofValue,b,he]
 rw [hr];show Calls P f vals.toArray w _;refine hC.mono fun e w' hR=> ?_
 obtain⟨v,rfl,hk⟩:=h e w' hR;exact hk
def g_W:aX:= .mk false [(E8, [100,111,99])] [] [.mk true [] [97] [], .mk true [] [98] []]
theorem j_X:M3 g_W [[]]=3:=P3
theorem o_y (W:World):Calls Tryz.prog 27 #[] W fun e w'=>e= .returned true/\Below W W w':=by
 have HL:=a6 (fun(w:World)=>j_W 97 rfl [] none 0 w (RowA.empty _ _ _));have c:=a6 (fun(w:World)=>j_W 98 rfl [] none 0 w (RowA.empty _ _ _));have HE:=a6 (fun(w1:World) (d1 d2:List Value) (h1:d1.length=4) (h2:d2.length=4) (d:dY w1 w1 (.mk true [] [97] []) d1) (f:dY w1 w1 (.mk true [] [98] []) d2)=>
  o_x 100 [111,99] w1 2 [.mk true [] [97] [], .mk true [] [98] []] (d1 ++ d2) (w1.alloc (Obj.cells (d1 ++ d2).toArray 35)) (c_G 4 2 (d1 ++ d2) (by simp [h1,h2]) P2 (by intro u hu;exact(OQ hu).elim (d.one u) (f.one u)) (a7)) (by
   have hb:=c_s w1 (Obj.cells (d1 ++ d2).toArray 35);unfold eX;refine⟨d1,d2,rfl,dY.keep hb hb.size _ _ d, ?_⟩;unfold eX;exact⟨d2, [],by simp,dY.keep hb hb.size _ _ f,by unfold eX;rfl⟩))
 have HR:=a6 (fun(w1:World) (v:Value) (hv:bY w1 w1 g_W v)=>by
  have hb:=b7 w1 (Obj.cells #[()] 36);have hx:u_7 (w1.alloc (Obj.cells #[()] 36)) (w1+1) (.slice w1 1 1) [([],none,0)]:=⟨⟨_,_,rfl,B6 w1 () 36 _ rfl P2⟩,fun x hx=>by rw [O9 hx];exact RowA.empty _ _ _⟩;have h:=i_f g_W v (w1+1) _ _ (w1.alloc (Obj.cells #[()] 36)) P9 (hv.keep hb P2) P6 hx P6 (fun x hx=>by rw [O9 hx];simp);rw [show iV [([],none,0)]= [[]]from rfl,j_X]at h;exact h)
 go_enter Tryz.func27,Tryz.ntmps27
 go_wp2_with fail;refine(HL.o W).mono ?_;rintro e w1 ⟨ap,cp,at_,ct,rfl,b,a⟩;have n:=a6 a;have i:=a6 b
 clear a b HL;go_wp2_with fail;refine(c.o w1).mono ?_;rintro e w2 ⟨ap2,cp2,at2,ct2,rfl,b,a⟩;have j:=a6 (eZ n.o a (a8))
 have k:=HE.o w2 _ _ rfl rfl (dY.keep a a.size _ _ i.o) b;clear a b c HE i;go_wp2_with fail;refine k.mono ?_;rintro e w3 ⟨g,rfl,b,a⟩;have l:=a6 (eZ (j.o.alloc j.o.size _) a (a8))
 have m:=a6 (HR.o w3 _ ⟨_,rfl,b⟩);clear a b k HR;go_wp2_with fail;refine m.o.mono ?_;rintro e w4 ⟨rfl,a⟩;have o:=a6 (eZ (l.o.alloc l.o.size _) a (a8))
 clear a m;go_wp2_with fail;go_ret;exact⟨rfl,o.o⟩
def a_D (s:b5) (n:aX) (L:List (List Int)) (m:Nat):Bool:=L.all (fun p=>decide (p.length <= 40)) && (J7 (s.rules ++ [s.els]) && (F4 n 50 && (decide (L.length <= 30) && decide (m <= 400))))
theorem i_i {xs:List PX} {k:Nat} (h:k < xs.length):(iV (xs.drop k)).all (fun p=>decide (p.length <= 40))=(decide (xs[k].1.length <= 40) && (iV (xs.drop (k+1))).all (fun p=>decide (p.length <= 40))):=by
 rw [NX h];rfl
theorem q_x (s:b5) (n:aX) (u v:Value) (vx:Value) (xs:List PX) (qa:Option Addr) (m qc:Nat) (W:World) (hs:s.wt <= 100000000) (hn:n.wt <= 100000000) (R:xs.length <= 100000000) (hm:m <= 100000000) (hu:SchemaV W W s u) (hv:bY W W n v) (hx:u_7 W W vx xs):
 Calls Tryz.prog 28 #[u,v,vx,(qa,m,qc)] W (fun e w'=>e= .returned (a_D s n (iV xs) m)/\Below W W w'):=by
 have E:=hu;have F:=hv
 obtain⟨l,ps,t,ks⟩:=n;obtain⟨a,c,css,ea,ec,o0,o1,o2,o3,o4,o5,rfl, -, -, -, -⟩:=E.open;obtain⟨ap,cp,at_,ct,ak,ck,cs4,rfl, -, -, -, -⟩:=F.open;generalize aX.mk l ps t ks=n at hn hv⊢;obtain⟨xa,xc,rfl, -⟩:=hx.row;obtain⟨w0,y⟩:∃w0,w0=(W.alloc (Obj.cells #[(a,s.rules.length,c),aZ s.els.type,s.els.text.1,aZ s.els.text.2,s.els.other.1,aZ s.els.other.2,(ea,s.els.kids.length,ec),s.els.fill,aZ s.els.fillT,o0,o1,o2,o3,o4,o5,s.cap] 30)).alloc (Obj.cells #[l,(ap,ps.length,cp),(at_,t.length,ct),(ak,ks.length,ck)] 35):=⟨_,rfl⟩;have d:Below W W w0:=t_0
 have hA:At w0 W [(a,s.rules.length,c),aZ s.els.type,s.els.text.1,aZ s.els.text.2,s.els.other.1,aZ s.els.other.2,(ea,s.els.kids.length,ec),s.els.fill,aZ s.els.fillT,o0,o1,o2,o3,o4,o5,s.cap] 30:=u_3
 have hN:At w0 (W+1) [l,(ap,ps.length,cp),(at_,t.length,ct),(ak,ks.length,ck)] 35:=by rw [y];exact At.second W _ _ _
 have HS:=a6 (fun(w':World) (hb:Below w0 w0 w')=>i_h s _ w' hs (hu.keep (d.trans (hb.mono d.size)) (d.trans (hb.mono d.size)).size));have HT:=a6 (fun(w':World) (hb:Below w0 w0 w')=>o_p n _ 50 w' hn P2 P2 (hv.keep (d.trans (hb.mono d.size)) (d.trans (hb.mono d.size)).size));have HX:=a6 (fun(w':World) (hb:Below w0 w0 w')=>hx.keep (d.trans (hb.mono d.size)) (d.trans (hb.mono d.size)).size);have C:=fun(w':World) (h:At w' W [(a,s.rules.length,c),aZ s.els.type,s.els.text.1,aZ s.els.text.2,s.els.other.1,aZ s.els.other.2,(ea,s.els.kids.length,ec),s.els.fill,aZ s.els.fillT,o0,o1,o2,o3,o4,o5,s.cap] 30)=>ldx (P:=Tryz.prog) h Tryz.underlying30 rfl P3
 simp [go_sem]at C
 obtain⟨T,hT⟩:∃T,T=a_D s n (iV xs) m:=⟨_,rfl⟩;have L:=a6 (show ((iV (xs.drop 0)).all (fun p=>decide (p.length <= 40)) && (J7 (s.rules ++ [s.els]) && (F4 n 50 && (decide (xs.length <= 30) && decide (m <= 400)))))=T by rw [hT];unfold a_D;simp);rw [<- hT];have HA:=a6 hA;have HN:=a6 hN
 have z:=a6 d;have G:=a6 y
 clear hu hv E F hs hn d y hA hN hx hT;go_enter Tryz.func28,Tryz.ntmps28;go_upto_region 1 with fail;rw [<- G.o];clear G;go_wp2_with fail
 go_loopg [13] xs.length (fun g i wr=>∃k:Nat,i= .int .i64 k/\k+g=xs.length/\Hid (((iV (xs.drop k)).all (fun p=>decide (p.length <= 40)) && (J7 (s.rules ++ [s.els]) && (F4 n 50 && (decide (xs.length <= 30) && decide (m <= 400)))))=T)/\wr=w0)
 case atStart=>exact⟨0,rfl,by omega,L,rfl⟩
 case round=>
  obtain⟨k,rfl,hg,A,rfl⟩:=hrel
  by_cases H:k < xs.length
  . have Q:(k:Int) < xs.length:=P2
    have I:=HX.o wr (a7);obtain⟨b,off,rfl,hb,hc⟩:=I.at_ k H;have w:=a6 ((congrArg (· && (J7 (s.rules ++ [s.els]) && (F4 n 50 && (decide (xs.length <= 30) && decide (m <= 400))))) (i_i H)).symm.trans A.o);generalize xs[k]=x at hc w;obtain⟨q0,qa',qc'⟩:=x;unfold C5 at hc;simp only at hc w;clear I hb A;by_cases hq:q0.length <= 40
    . have M:¬ (40:Int) < q0.length:=P2
      have f:=a6 (show ((iV (xs.drop (k+1))).all (fun p=>decide (p.length <= 40)) && (J7 (s.rules ++ [s.els]) && (F4 n 50 && (decide (xs.length <= 30) && decide (m <= 400)))))=T by have h:=w.o;rw [decide_eq_true hq,Bool.true_and]at h;exact h);clear hq w;go_wp2_with fail
      go_roundg (xs.length - (k+1))
      case measure=>omega
      case rel=>exact⟨k+1,by go_num,by omega,f,rfl⟩
    have M:(40:Int) < q0.length:=P2
    have f:=a6 (show false=T by have h:=w.o;rw [O3 hq,Bool.false_and,Bool.false_and]at h;exact h);clear hq w;go_wp2_with fail;go_ret;exact⟨bJ f.o,z.o⟩
  obtain rfl:k=xs.length:=P2
  have f:=a6 (show (J7 (s.rules ++ [s.els]) && (F4 n 50 && (decide (xs.length <= 30) && decide (m <= 400))))=T by have h:=A.o;rw [List.drop_length]at h;exact h);have hS:=C wr (HA.o);have J:=a6 (HS.o wr (a7));clear A HX;have S:¬ (xs.length:Int) < xs.length:=P2
  go_wp2_with fail;refine J.o.mono ?_;rintro e w1 ⟨rfl,j⟩;have K:=a6 j
  have D:=a6 (HT.o w1 j);obtain⟨⟨y0,y1,y2,y3⟩, -,yl⟩:=(HN.o.kept j).f4;clear j J HS hS HN C;cases h1:J7 (s.rules ++ [s.els])with
  | false=>
    have Hr:=a6 (show false=T by have h:=f.o;rw [h1,Bool.false_and]at h;exact h);clear h1 D f;go_wp2_with fail;go_ret;exact⟨bJ Hr.o,z.o.trans (K.o.mono z.o.size)⟩
  | true=>
    have o:=a6 (show (F4 n 50 && (decide (xs.length <= 30) && decide (m <= 400)))=T by have h:=f.o;rw [h1,Bool.true_and]at h;exact h);clear h1 f;go_wp2_with fail;refine D.o.mono ?_;rintro e w2 ⟨rfl,j⟩;have B:=a6 (z.o.trans ((b6 K.o j).mono z.o.size))
    clear j D y0 y1 y2 y3 yl HT;cases h2:F4 n 50 with
    | false=>
      have Hr:=a6 (show false=T by have h:=o.o;rw [h2,Bool.false_and]at h;exact h);clear h2 o;go_wp2_with fail;go_ret;exact⟨bJ Hr.o,B.o⟩
    | true=>
      have q:=a6 (show (decide (xs.length <= 30) && decide (m <= 400))=T by have h:=o.o;rw [h2,Bool.true_and]at h;exact h);clear h2 o;by_cases h3:xs.length <= 30
      . have N:(xs.length:Int) <= 30:=P2
        have r:=a6 (show decide (m <= 400)=T by have h:=q.o;rw [decide_eq_true h3,Bool.true_and]at h;exact h);clear h3 q;by_cases h4:m <= 400
        . have O:(m:Int) <= 400:=P2
          have Hr:=a6 ((decide_eq_true h4).symm.trans r.o);clear h4 r;go_wp2_with fail;go_ret;exact⟨bJ QJ,B.o⟩
        have O:¬ (m:Int) <= 400:=P2
        have Hr:=a6 ((O3 h4).symm.trans r.o);clear h4 r;go_wp2_with fail;go_ret;exact⟨bJ QJ,B.o⟩
      have N:¬ (xs.length:Int) <= 30:=P2
      have Hr:=a6 (show false=T by have h:=q.o;rw [O3 h3,Bool.false_and]at h;exact h);clear h3 q;go_wp2_with fail;go_ret;exact⟨bJ QJ,B.o⟩
theorem j_Y:∀ (q:Option (List Int)) (l:List (List Int)),(lY q l).length <= l.length:=by
 intro q l;induction l generalizing q with
 | nil=>cases q <;> simp [lY]
 | cons p l ih=>
   cases q with
   | none=>simp only [lY,O7];have:=ih (some p);omega
   | some q=>
     simp only [lY];split
     . have:=ih (some q);simp;omega
     have:=ih (some p);simp;omega
theorem j_Z (n X:aX) (p d:List Int) (pos:Int) (nd:aX) (ol:List fQ) (v:Value) (pa ta oa:Option Addr) (pc tc oc:Nat) (l0:Bool) (a1 a2 a3:Option Addr) (m1 m2 m3 c1 c2 c3:Nat) (W:World)
 (A:n.wt <= 100000000) (hv:bY W W n v) (r:nd.wt <= 1048576) (hn:bY W W nd (.agg #[l0,(a1,m1,c1),(a2,m2,c2),(a3,m3,c3)]))
 (hp:RowA W W 1 pa p.length pc (p.map (Value.int .i64))) (B:p.length <= 1000000) (hE:dQ nd=0) (i:K4 n p nd=(X,0)):
 Calls Tryz.prog 66 #[v, .agg #[.int .i64 1,(pa,p.length,pc),(ta,d.length,tc),pos,l0,(a1,m1,c1),(a2,m2,c2),(a3,m3,c3),(oa,ol.length,oc),(),(),false,(),OY,(),OY,false,(),OY,(),OY]] W (AX W (X,0)):=by
 obtain⟨csn,rfl,hc⟩:=hv;obtain⟨l,b1,o1,d1,b2,o2,d2,b3,o3,d3,rfl⟩:=hc.form;obtain⟨kd,c⟩:∃kd:Int,kd=1:=⟨_,rfl⟩;rw [<- c];obtain⟨w0,f⟩:∃w0,w0=(((((W.alloc (Obj.cells #[l,(b1,o1,d1),(b2,o2,d2),(b3,o3,d3)] 35)).alloc (Obj.cells #[kd,(pa,p.length,pc),(ta,d.length,tc),pos,l0,(a1,m1,c1),(a2,m2,c2),(a3,m3,c3),(oa,ol.length,oc),(),(),false,(),OY,(),OY,false,(),OY,(),OY] 55)).alloc (Obj.cells #[false,(),(),()] 35)).alloc (Obj.cells #[false,(),(),()] 35)).alloc (Obj.cells #[false,(),(),()] 35)):=⟨_,rfl⟩;have a:Below W W w0:=by rw [f];exact b_f _ _ _ _ _ _
 have s:w0.heap.size=W.heap.size+5:=by rw [f];simp
 have hA:bV w0 W l (b1,o1,d1) (b2,o2,d2) (b3,o3,d3):=ZQ
 have hO:At w0 (W+1) [kd,(pa,p.length,pc),(ta,d.length,tc),pos,l0,(a1,m1,c1),(a2,m2,c2),(a3,m3,c3),(oa,ol.length,oc),(),(),false,(),OY,(),OY,false,(),OY,(),OY] 55:=s_X
 have hX:bV w0 (W.heap.size+1+1) false () () ():=t_f
 have j:=a6 (e_b nd _ w0 w0 r (show bY w0 w0 nd (.agg #[l0,(a1,m1,c1),(a2,m2,c2),(a3,m3,c3)])by obtain⟨cs,he,hc⟩:=hn;exact⟨cs,he,dY.keep a a.size _ _ hc⟩) (a8));rw [hE]at j;have k:=fun(w':World) (hb:Below w0 w0 w')=>r_m n nd p (.agg #[l,(b1,o1,d1),(b2,o2,d2),(b3,o3,d3)]) (.agg #[l0,(a1,m1,c1),(a2,m2,c2),(a3,m3,c3)]) pa pc w' A P2 ⟨_,rfl,dY.keep (a.trans (hb.mono a.size)) (a.trans (hb.mono a.size)).size _ _ hc⟩ UX (hp.keep (a.trans (hb.mono a.size)) (a.trans (hb.mono a.size)).size) B
 rw [i]at k;have t:=a6 k
 have x0:=hO.cell 0 rfl;have x4:=hO.cell 4 rfl;have x5:=hO.cell 5 rfl;have x6:=hO.cell 6 rfl;have x7:=hO.cell 7 rfl;have xl:=hO.lt
 have HA:=a6 hA;have HO:=a6 hO;have HX:=a6 hX;have m:=a6 a;have o:=a6 s;have u:=a6 f
 have q1:(kd == 1)=true:=t_3
 have q2:(kd == 2)=false:=t_3
 have q3:(kd == 3)=false:=t_3
 have q4:(kd == 4)=false:=t_3
 have q5:(kd == 5)=false:=t_3
 clear hc hn hp a s hA hO hX k f hE i c;go_enter Tryz.func66,Tryz.ntmps66;go_upto_region 2 with fail;rw [<- u.o];clear u;go_wp2_with fail;refine j.o.mono ?_;rintro e w1 ⟨rfl,g⟩;have h:=HO.o.kept g
 have z1:=h.cell 1 rfl;have z4:=h.cell 4 rfl;have z5:=h.cell 5 rfl;have z6:=h.cell 6 rfl;have z7:=h.cell 7 rfl
 obtain⟨y0,y1,y2,y3, -, -⟩:=(HA.o.keep (g.mono (by have:=o.o;omega))).facts;have w:=a6 (HX.o.keep (g.mono (by have:=o.o;omega)));have HM:=a6 (t.o w1 g);have x:=a6 (m.o.trans (g.mono m.o.size));have C:=a6 g.size;clear j g h t x0 x4 x5 x6 x7 xl HA HO HX;go_wp2_with fail;refine HM.o.mono ?_;intro e w3 ht;obtain⟨q,⟨-,l',k1',o4,r1',k2',o5,r2',k3',o6,r3',rfl,y⟩ | ⟨hz, -⟩⟩:=ht.cases
 . have z:=w.o.keep (q.mono (by have:=w.o.facts.2.2.2.2.2;omega))
   have D:=a6 (x.o.trans (q.mono x.o.size));have E:=a6 (show NodeQ w3 (fun b=>w0.heap.size <= b) X [l',(k1',o4,r1'),(k2',o5,r2'),(k3',o6,r3')]from NodeQ.keep (a8) (fun _ _ _=>rfl) (fun b hb _=>aJ C.o hb) _ _ y);clear HM ht q y z1 z4 z5 z6 z7 y0 y1 y2 y3;obtain⟨x0,x1,x2,x3,⟨fx0,fx1,fx2,fx3⟩,xl⟩:=z.facts;clear z;go_wp2_with fail;refine bodyPost_ret (v:= .tuple #[.agg #[l',(k1',o4,r1'),(k2',o5,r2'),(k3',o6,r3')],OY]) S6 rfl ?_;exact LY (N:=W.heap.size+1+1) D.o m.o.size t_m P2 E.o
 exact absurd rfl hz
theorem G0 (w:World):Calls Tryz.prog 119 #[()] w (fun e w'=>(∃a c,e= .returned (.slice a 0 c))/\Below w w w'):=by
 refine(pZ 0 0 none 0 [] w (RowA.empty _ _ _) (Nat.zero_le _) P2).mono ?_;rintro e w' ⟨v,rfl,b,hb⟩;obtain⟨va,vc,rfl, -⟩:=eK b T0;exact⟨⟨va,vc,rfl⟩,hb⟩
theorem r_X (W:World):
 Calls Tryz.prog 65 #[K9] W (fun e w'=>(∃a c a' c',e= .returned (.agg #[false, .slice a 0 c,OY, .slice a' 0 c',OY]))/\Below W W w'):=by
 obtain⟨w0,d⟩:∃w0,w0=(W.alloc (Obj.cells #[false,(),OY,(),OY] 53)).alloc (Obj.cells #[false,(),OY,(),OY] 53):=⟨_,rfl⟩;have h:Below W W w0:=t_W
 have i:w0.heap.size=W.heap.size+2:=by rw [d];simp
 have hA:At w0 W [false,(),OY,(),OY] 53:=u_6
 have hB:At w0 (W+1) [false,(),OY,(),OY] 53:=by rw [d];exact At.second W _ _ _
 obtain⟨⟨x0,x1,x2,x3,x4⟩,xf,xl⟩:=hA.f5;have HA:=a6 hA;have HB:=a6 hB;have j:=a6 h;have n:=a6 i;have k:=a6 d
 clear hA hB h i d;go_enter Tryz.func65,Tryz.ntmps65;go_upto_region 1 with fail;rw [<- k.o];clear k;go_cut [] (fun wx=>∃a c a' c',At wx W [false, .slice a 0 c,OY, .slice a' 0 c',OY] 53/\At wx (W+1) [false,(),OY,(),OY] 53/\Below W W wx)
 case first=>
  go_region_law (first
   | (refine bQ rfl 119 _ _ rfl P5 [()] ?_ _ (G0 w0.drew) ?_
      . go_simp
      rintro e w1 ⟨⟨va,vc,rfl⟩,b⟩;refine⟨_,rfl, ?_⟩;have f:=a6 (((Below.refl w0 w0).drew).trans b);obtain⟨⟨y0,y1,y2,y3,y4⟩,yf,yl⟩:=(HA.o.kept f.o).f5;clear b)
   | (refine bQ rfl 119 _ _ rfl P5 [()] ?_ _ (G0 w1) ?_
      . go_simp
      rintro e w2 ⟨⟨ua,uc,rfl⟩,b⟩;refine⟨_,rfl, ?_⟩;have g:=a6 (f.o.trans (b.mono f.o.size));have l:=a6 (HA.o.kept g.o);obtain⟨⟨z0,z1,z2,z3,z4⟩,zf,zl⟩:=l.o.f5;clear b))
  all_goals
   go_wp2_with fail
   go_meet
   case rel=>
    refine⟨va,vc,ua,uc,(l.o.set 1 _).set 3 _,((HB.o.kept g.o).set_ne P2 _).set_ne P2 _,((j.o.trans (g.o.mono j.o.size)).setCell (p:=(P0 W 1)) (a8) _).setCell (p:=(P0 W 3)) (a8) _⟩
 case rest=>
  obtain⟨a,c,a',c',hA,hB,b⟩:=hcut;obtain⟨⟨y0,y1,y2,y3,y4⟩,yf,yl⟩:=hA.f5;obtain⟨⟨z0,z1,z2,z3,z4⟩,zf,zl⟩:=hB.f5;have m:=a6 b;clear hA hB b x0 x1 x2 x3 x4 xf xl HA HB;go_wp2_with fail;refine bodyPost_ret (v:= .agg #[false, .slice a 0 c,OY, .slice a' 0 c',OY]) (by simp [results,Tryz.results65,go_sem,z0,z1,z2,z3,z4,zf]) rfl ?_;exact⟨⟨a,c,a',c',rfl⟩,((((m.o.setCell (p:=(P0 (W+1) 0)) WQ _).setCell (p:=(P0 (W+1) 1)) WQ _).setCell (p:=(P0 (W+1) 2)) WQ _).setCell (p:=(P0 (W+1) 3)) WQ _).setCell (p:=(P0 (W+1) 4)) WQ _⟩
theorem m_i (w:World):Calls Tryz.prog 114 #[()] w (fun e w'=>(∃a c,e= .returned (.slice a 0 c))/\Below w w w'):=by
 refine(d_0 0 0 none 0 [] w (RowA.empty _ _ _) (Nat.zero_le _) P2).mono ?_;rintro e w' ⟨v,rfl,b,hb⟩;obtain⟨va,vc,rfl, -⟩:=eK b T0;exact⟨⟨va,vc,rfl⟩,hb⟩
theorem d_g (B:Nat) (p:List Int) (a:Option Addr) (c:Nat) (w:World) (hr:RowA w B 1 a p.length c (p.map (Value.int .i64))) (hB:B <= w.heap.size) (hn:p.length <= 1000000):
 Calls Tryz.prog 119 #[(a,p.length,c)] w (fun e w'=>(∃a c,e= .returned (.slice a p.length c)/\RowQ w' (fun b=>w.heap.size <= b) 1 a p.length c (p.map (Value.int .i64)))/\Below w w w'):=by
 refine(pZ B p.length a c _ w hr hB P2).mono ?_;rintro e w' ⟨v,rfl,d,hb⟩;obtain⟨va,vc,rfl,hq⟩:=RowQ.of_own d PJ;exact⟨⟨va,vc,rfl,hq.keep (a8) (fun _ _ _=>rfl) (fun b hb _=>(d.lt b hb).1)⟩,hb⟩
theorem i_k {w w':World} {B M sz n cap:Nat} {a:Option Addr} {cs:List Value} (h:RowQ w (fun b=>B <= b) sz a n cap cs) (hg:w.grownBy w' (some M)) (hM:M < B):RowQ w' (fun b=>B <= b) sz a n cap cs:=
 h.keep hg.size (fun b hb c=>hg.block b c (fun e=>by injection e with e;omega)) (fun b hb _=>hb)
theorem At.store {P:Program} {w:World} {N:Nat} {cs cs':List Value} {T:TypeId} (h:At w N cs T) (hl:cs'.length=cs.length) (h1:cs'.all (·.oneCell')=true) (hi:(P.info? T).map (·.size)=some cs'.length):
 ∃w',(Instr.storeAt T (.pointer N) (.agg cs'.toArray)).run P w= .ok () w'/\At w' N cs' T/\w.grownBy w' (some N):=by
 refine⟨w.setCells N 0 cs', ?_, ?_,iX cs' 0 w⟩
 . refine run_storeAt_mid w N 0 T cs'.toArray (fun j hj=>⟨?_, ?_⟩) R4 UV
   . have a:j < cs.length:=by rw [<- hl];simpa using hj
     rw [O5,h.cell j (NV a)];rfl
   rw [O5];exact Lib.frozen_of_heap h j
 obtain⟨cur',g1,g2,g3⟩:=nK N cs' 0 w cs.toArray T (0,0) h XQ;unfold At;rw [g1];have:cur'=cs'.toArray:=by
  apply Array.toList_inj.1
  rw [g3];simp [<- hl]
 rw [this]
theorem r_Y (p d:List Int) (kd pos:Int) (nd:aX) (ol:List fQ) (pa ta oa:Option Addr) (pc tc oc:Nat) (l0:Bool) (a1 a2 a3:Option Addr) (m1 m2 m3 c1 c2 c3:Nat) (W:World)
 (M:nd.wt <= 100000000) (hn:bY W W nd (.agg #[l0,(a1,m1,c1),(a2,m2,c2),(a3,m3,c3)]))
 (hp:RowA W W 1 pa p.length pc (p.map (Value.int .i64))) (Y:p.length <= 1000000) (hd:RowA W W 1 ta d.length tc (d.map (Value.int .i64))) (Z:d.length <= 1000000) (ho:RowA W W 2 oa ol.length oc (cK ol)) (H0:ol.length <= 100000000):
 Calls Tryz.prog 189 #[.agg #[kd,(pa,p.length,pc),(ta,d.length,tc),pos,l0,(a1,m1,c1),(a2,m2,c2),(a3,m3,c3),(oa,ol.length,oc),(),(),false,(),OY,(),OY,false,(),OY,(),OY]] W (fun e w'=>(∃ (qa:Option Addr) (qc:Nat) (ra:Option Addr) (rc:Nat) (xa:Option Addr) (xc:Nat) (v4 v5 v6 v7 v8 v9:Value) (g1 g2 g3 g4:Option Addr) (h1 h2 h3 h4:Nat),e= .returned (.agg #[kd,(qa,p.length,qc),(ra,d.length,rc),pos,v4,v5,v6,v7,v8,v9, .slice xa 0 xc,false, .slice g1 0 h1,OY, .slice g2 0 h2,OY,false, .slice g3 0 h3,OY, .slice g4 0 h4,OY])/\RowQ w' (fun b=>W.heap.size <= b) 1 qa p.length qc (p.map (Value.int .i64))/\RowQ w' (fun b=>W.heap.size <= b) 1 ra d.length rc (d.map (Value.int .i64))/\ [v4,v5,v6,v7,v8,v9].all (·.oneCell')=true/\(∃a n c,v8= .slice a n c)/\(∃a n c,v9= .slice a n c))/\Below W W w'):=by
 obtain⟨w0,E⟩:∃w0,w0=(W.alloc (Obj.cells #[kd,(pa,p.length,pc),(ta,d.length,tc),pos,l0,(a1,m1,c1),(a2,m2,c2),(a3,m3,c3),(oa,ol.length,oc),(),(),false,(),OY,(),OY,false,(),OY,(),OY] 55)).alloc (Obj.cells #[OY,(),(),OY,false,(),(),(),(),(),(),false,(),OY,(),OY,false,(),OY,(),OY] 55):=⟨_,rfl⟩;have t:Below W W w0:=by rw [E];exact(b7 _ _).alloc P6 _
 have G:w0.heap.size=W.heap.size+2:=by rw [E];simp
 have hA:At w0 W [kd,(pa,p.length,pc),(ta,d.length,tc),pos,l0,(a1,m1,c1),(a2,m2,c2),(a3,m3,c3),(oa,ol.length,oc),(),(),false,(),OY,(),OY,false,(),OY,(),OY] 55:=by rw [E];exact(At.fresh W _ _).alloc _
 have hB:At w0 (W+1) [OY,(),(),OY,false,(),(),(),(),(),(),false,(),OY,(),OY,false,(),OY,(),OY] 55:=by rw [E];exact At.second W _ _ _
 have x1:=hA.cell 1 rfl;have x2:=hA.cell 2 rfl;have x10:=hA.cell 10 rfl;have xl:=hA.lt
 have N:=a6 (fun(w':World) (hb:Below w0 w0 w')=>d_g W p pa pc w' (hp.keep (t.trans (hb.mono t.size)) (a8)) (t.trans (hb.mono t.size)).size Y);have O:=a6 (fun(w':World) (hb:Below w0 w0 w')=>d_g W d ta tc w' (hd.keep (t.trans (hb.mono t.size)) (a8)) (t.trans (hb.mono t.size)).size Z);have HA:=a6 hA;have HB:=a6 hB;have Q:=a6 t;have R:=a6 G;have S:=a6 E
 have Hn:=a6 hn;have Ho:=a6 ho
 clear hA hB t G E hn hp hd ho;go_enter Tryz.func189,Tryz.ntmps189;go_upto_region 1 with fail;rw [<- S.o];clear S;go_cut [] (fun wx=>∃ (qa:Option Addr) (qc:Nat) (ra:Option Addr) (rc:Nat) (xa:Option Addr) (xc:Nat),At wx W [kd,(qa,p.length,qc),(ra,d.length,rc),pos,l0,(a1,m1,c1),(a2,m2,c2),(a3,m3,c3),(oa,ol.length,oc),(), .slice xa 0 xc,false,(),OY,(),OY,false,(),OY,(),OY] 55/\At wx (W+1) [OY,(),(),OY,false,(),(),(),(),(),(),false,(),OY,(),OY,false,(),OY,(),OY] 55/\RowQ wx (fun b=>W.heap.size+2 <= b) 1 qa p.length qc (p.map (Value.int .i64))/\RowQ wx (fun b=>W.heap.size+2 <= b) 1 ra d.length rc (d.map (Value.int .i64))/\Below W W wx)
 case first=>
  go_region_law (first
   | (refine bQ rfl 119 _ _ rfl P5 [(pa,p.length,pc)] ?_ _ (N.o w0.drew (a7).drew) ?_
      . go_simp
      rintro e w1 ⟨⟨qa,qc,rfl,hq⟩,f⟩;refine⟨_,rfl, ?_⟩;have x:=a6 (((Below.refl w0 w0).drew).trans f);have H5:=a6 hq;have hA1:=HA.o.kept x.o;have y1:=hA1.cell 1 rfl;have y2:=hA1.cell 2 rfl;have y10:=hA1.cell 10 rfl;have yl:=hA1.lt
      clear f hq hA1)
   | (refine bQ rfl 119 _ _ rfl P5 [(ta,d.length,tc)] ?_ _ (O.o w1 x.o) ?_
      . go_simp
      rintro e w2 ⟨⟨ra,rc,rfl,hq⟩,f⟩;refine⟨_,rfl, ?_⟩;have y:=a6 (x.o.trans (f.mono x.o.size));have J:=a6 f;have H6:=a6 hq;have s:=HA.o.kept y.o;have z1:=s.cell 1 rfl;have z2:=s.cell 2 rfl;have z10:=s.cell 10 rfl;have zl:=s.lt
      clear f hq s)
   | (refine bQ rfl 114 _ _ rfl P5 [()] ?_ _ (m_i w2) ?_
      . go_simp
      rintro e w3 ⟨⟨xa,xc,rfl⟩,f⟩;refine⟨_,rfl, ?_⟩;have z:=a6 (y.o.trans (f.mono y.o.size));have D:=a6 f;have q:=a6 (HA.o.kept z.o);have t1:=q.o.cell 1 rfl;have t2:=q.o.cell 2 rfl;have t10:=q.o.cell 10 rfl;have tl:=q.o.lt
      have tf:=fun j=>Lib.frozen_of_heap q.o j
      clear f))
  all_goals
   go_wp2_with fail
   go_meet
   case rel=>
    have G:=R.o;have J1:=x.o.size;have J2:=y.o.size
    have l:¬ (W.heap.size+2 <= W.heap.size):=P2
    refine⟨qa,qc,ra,rc,xa,xc,((q.o.set 1 _).set 2 _).set 10 _,(((HB.o.kept z.o).set_ne P2 _).set_ne P2 _).set_ne P2 _,b9 (b9 (b9 (((H5.o.keep J.o.size (fun b _ F=>J.o.block b F) (fun _ h _=>h)).keep D.o.size (fun b _ F=>D.o.block b F) (fun b h _=>by have:w0.heap.size <= b:=h;omega))) l) l) l,b9 (b9 (b9 (H6.o.keep D.o.size (fun b _ F=>D.o.block b F) (fun b h _=>by omega)) l) l) l,((((Q.o.trans (z.o.mono Q.o.size)).setCell (p:=(P0 W 1)) (a8) _).setCell (p:=(P0 W 2)) (a8) _).setCell (p:=(P0 W 10)) (a8) _)⟩
 case rest=>
  obtain⟨qa,qc,ra,rc,xa,xc,hA,hB,hq,hr,f⟩:=hcut;have x5:=hA.cell 8 rfl;have x6:=hA.cell 9 rfl;have e4:=hA.cell 4 rfl;have e5:=hA.cell 5 rfl;have e6:=hA.cell 6 rfl;have e7:=hA.cell 7 rfl;have xl:=hA.lt
  have H7:=a6 (fun(w':World) (hb:Below wc wc w')=>L6 W ol.length oa oc _ w' (Ho.o.keep (f.trans (hb.mono f.size)) (a8)) (f.trans (hb.mono f.size)).size H0);have h0:=a6 (fun(w':World)=>L6 0 0 none 0 [] w' (RowA.empty _ _ _) (Nat.zero_le _) P2);have h5:=a6 (fun(w':World) (hb:Below wc wc w')=>b_3 nd.wt nd (.agg #[l0,(a1,m1,c1),(a2,m2,c2),(a3,m3,c3)]) w' (a8) M (by obtain⟨cs,he,hc⟩:=Hn.o;exact⟨cs,he,dY.keep (f.trans (hb.mono f.size)) (f.trans (hb.mono f.size)).size _ _ hc⟩));have HA:=a6 hA;have HB:=a6 hB;have Hq:=a6 hq;have Hr:=a6 hr;have A:=a6 f
  clear hA hB hq hr f Hn Ho N O x1 x2 x10;go_upto_region 2 with fail
  go_cut [] (fun wx=>∃v4 v5 v6 v7 v8 v9,At wx W [kd,(qa,p.length,qc),(ra,d.length,rc),pos,v4,v5,v6,v7,v8,v9, .slice xa 0 xc,false,(),OY,(),OY,false,(),OY,(),OY] 55/\At wx (W+1) [OY,(),(),OY,false,(),(),(),(),(),(),false,(),OY,(),OY,false,(),OY,(),OY] 55/\RowQ wx (fun b=>W.heap.size+2 <= b) 1 qa p.length qc (p.map (Value.int .i64))/\RowQ wx (fun b=>W.heap.size+2 <= b) 1 ra d.length rc (d.map (Value.int .i64))/\Below W W wx/\ [v4,v5,v6,v7,v8,v9].all (·.oneCell')=true/\(∃a n c,v8= .slice a n c)/\(∃a n c,v9= .slice a n c))
  case first=>
   go_region_law (first
    | (refine bQ rfl 113 _ _ rfl P5 [(oa,ol.length,oc)] ?_ _ (H7.o wc.drew (a7).drew) ?_
       . go_simp
       rintro e w1 ⟨u5,rfl,B,f⟩;obtain⟨ua,ub,rfl, -⟩:=eK B (DX _);refine⟨_,rfl, ?_⟩;have x:=a6 (((Below.refl wc wc).drew).trans f);have hA1:=HA.o.kept x.o;have y5:=hA1.cell 8 rfl;have y6:=hA1.cell 9 rfl;have y4:=hA1.cell 4 rfl;have y7:=hA1.cell 5 rfl;have y8:=hA1.cell 6 rfl;have y9:=hA1.cell 7 rfl;have yl:=hA1.lt
       clear f B hA1)
    | (refine bQ rfl 113 _ _ rfl P5 [()] ?_ _ (h0.o w1) ?_
       . go_simp
       rintro e w2 ⟨u6,rfl,B,f⟩;obtain⟨uc,ud,rfl, -⟩:=eK B T0;refine⟨_,rfl, ?_⟩;have y:=a6 (x.o.trans (f.mono x.o.size));have s:=HA.o.kept y.o;have z5:=s.cell 8 rfl;have z6:=s.cell 9 rfl;have z4:=s.cell 4 rfl;have z7:=s.cell 5 rfl;have z8:=s.cell 6 rfl;have z9:=s.cell 7 rfl;have zl:=s.lt
       clear f B s)
    | (refine bQ rfl 61 _ _ rfl P5 [.agg #[l0,(a1,m1,c1),(a2,m2,c2),(a3,m3,c3)]] ?_ _ (h5.o w2 y.o) ?_
       . go_simp
       rintro e w3 ⟨cs,rfl,T,f⟩;obtain⟨lk,s1,g1,h1,s2,g2,h2,s3,g3,h3,rfl⟩:=T.form;refine⟨_,rfl, ?_⟩;have z:=a6 (y.o.trans (f.mono y.o.size));have q:=a6 (HA.o.kept z.o);have t5:=q.o.cell 8 rfl;have t6:=q.o.cell 9 rfl;have t4:=q.o.cell 4 rfl;have t7:=q.o.cell 5 rfl;have t8:=q.o.cell 6 rfl;have t9:=q.o.cell 7 rfl;have tl:=q.o.lt
       have tf:=fun j=>Lib.frozen_of_heap q.o j
       clear f T))
   all_goals
    go_wp2_with fail
    go_meet
    case rel=>
     have G:=R.o;have hw:=(A.o.trans (z.o.mono A.o.size));have l:¬ (W.heap.size+2 <= W.heap.size):=P2
     refine⟨_,_,_,_,_,_,(((((q.o.set 8 _).set 9 _).set 4 _).set 5 _).set 6 _).set 7 _,((((((HB.o.kept z.o).set_ne P2 _).set_ne P2 _).set_ne P2 _).set_ne P2 _).set_ne P2 _).set_ne P2 _,b9 (b9 (b9 (b9 (b9 (b9 (Hq.o.since z.o) l) l) l) l) l) l,b9 (b9 (b9 (b9 (b9 (b9 (Hr.o.since z.o) l) l) l) l) l) l,(((((hw.setCell (p:=(P0 W 8)) (a8) _).setCell (p:=(P0 W 9)) (a8) _).setCell (p:=(P0 W 4)) (a8) _).setCell (p:=(P0 W 5)) (a8) _).setCell (p:=(P0 W 6)) (a8) _).setCell (p:=(P0 W 7)) (a8) _,rfl,⟨_,_,_,rfl⟩,⟨_,_,_,rfl⟩⟩
  case rest=>
   obtain⟨v4,v5,v6,v7,v8,v9,hA,hB,hq,hr,f,C,h8,h9⟩:=hcut;have K:=a6 C;have H8:=a6 h8;have H9:=a6 h9
   clear C h8 h9;have h6:=a6 (show W.heap.size+1 < wc.heap.size from hB.lt)
   have HA:=a6 hA;have HB:=a6 hB;have Hq:=a6 hq;have Hr:=a6 hr;have A:=a6 f
   clear hA hB hq hr f;go_wp2_with fail
   go_loopg [43,4] 4 (fun g i _ wr=>∃ (j:Nat) (g1:Option Addr) (h1:Nat) (g2:Option Addr) (h2:Nat) (g3:Option Addr) (h3:Nat) (g4:Option Addr) (h4:Nat),i= .int .i64 j/\j+g=4/\(j < 1 ->g1=none/\h1=0)/\(j < 2 ->g2=none/\h2=0)/\(j < 3 ->g3=none/\h3=0)/\(j < 4 ->g4=none/\h4=0)/\
    At wr W [kd,(qa,p.length,qc),(ra,d.length,rc),pos,v4,v5,v6,v7,v8,v9, .slice xa 0 xc,false, .slice g1 0 h1,OY, .slice g2 0 h2,OY,false, .slice g3 0 h3,OY, .slice g4 0 h4,OY] 55/\At wr (W+1) [OY,(),(),OY,false,(),(),(),(),(),(),false,(),OY,(),OY,false,(),OY,(),OY] 55/\At wr wc [.pointer (some (P0 W 12)), .pointer (some (P0 W 14)), .pointer (some (P0 W 17)), .pointer (some (P0 W 19))] 273/\RowQ wr (fun b=>W.heap.size+2 <= b) 1 qa p.length qc (p.map (Value.int .i64))/\RowQ wr (fun b=>W.heap.size+2 <= b) 1 ra d.length rc (d.map (Value.int .i64))/\Below W W wr)
   case atStart=>exact⟨0,none,0,none,0,none,0,none,0,rfl,rfl,fun _=>⟨rfl,rfl⟩,fun _=>⟨rfl,rfl⟩,fun _=>⟨rfl,rfl⟩,fun _=>⟨rfl,rfl⟩,HA.o.alloc _,HB.o.alloc _,At.fresh _ _ _,Hq.o.since (b7 _ _),Hr.o.since (b7 _ _),A.o.trans ((b7 _ _).mono A.o.size)⟩
   case round=>
    obtain⟨j,g1,h1,g2,h2,g3,h3,g4,h4,rfl,hg,i1,i2,i3,i4,hA,hB,hP,hq,hr,U⟩:=hrel;have H:=a6 (show W.heap.size+1 < wc.heap.size from h6.o);clear HA HB Hq Hr;have H1:=a6 i1;have H2:=a6 i2;have H3:=a6 i3;have H4:=a6 i4
    have HA:=a6 hA;have HB:=a6 hB;have HP:=a6 hP;have Hq:=a6 hq;have Hr:=a6 hr;have w:=a6 U
    clear i1 i2 i3 i4 hA hB hP hq hr U;have hj:j=0∨j=1∨j=2∨j=3∨j=4:=P2
    rcases hj with rfl | rfl | rfl | rfl | rfl
    . obtain ⟨rfl,rfl⟩:=H1.o P2
      have p0:=HP.o.cell 0 rfl;have pl:=HP.o.lt
      have c0:=HA.o.cell 12 rfl;have al:=HA.o.lt
      go_wp2_with fail;refine(G0 wr).mono ?_;rintro e w4 ⟨⟨ga,gc,rfl⟩,r⟩;have o:=a6 (HA.o.kept r)
      have k0:=o.o.cell 12 rfl;have kl:=o.o.lt
      have kf:=fun j=>Lib.frozen_of_heap o.o j
      have m:=a6 r;clear r p0 pl c0 al;go_wp2_with fail
      go_roundg 3
      case measure=>omega
      case rel=>
       have l:¬ (W.heap.size+2 <= W.heap.size):=P2
       have L:=H.o;exact⟨1,ga,gc,g2,h2,g3,h3,g4,h4,rfl,by omega,fun h=>absurd h P2,fun h=>H2.o P2,fun h=>H3.o P2,fun h=>H4.o P2,o.o.set 12 _,(HB.o.kept m.o).set_ne P2 _,(HP.o.kept m.o).set_ne P2 _,b9 (Hq.o.since m.o) l,b9 (Hr.o.since m.o) l,(w.o.trans (m.o.mono w.o.size)).setCell (p:=(P0 W 12)) (a8) _⟩
    . obtain ⟨rfl,rfl⟩:=H2.o P2
      have p0:=HP.o.cell 1 rfl;have pl:=HP.o.lt
      have c0:=HA.o.cell 14 rfl;have al:=HA.o.lt
      go_wp2_with fail;refine(G0 wr).mono ?_;rintro e w4 ⟨⟨ga,gc,rfl⟩,r⟩;have o:=a6 (HA.o.kept r)
      have k0:=o.o.cell 14 rfl;have kl:=o.o.lt
      have kf:=fun j=>Lib.frozen_of_heap o.o j
      have m:=a6 r;clear r p0 pl c0 al;go_wp2_with fail
      go_roundg 2
      case measure=>omega
      case rel=>
       have l:¬ (W.heap.size+2 <= W.heap.size):=P2
       have L:=H.o;exact⟨2,g1,h1,ga,gc,g3,h3,g4,h4,rfl,by omega,fun h=>absurd h P2,fun h=>absurd h P2,fun h=>H3.o P2,fun h=>H4.o P2,o.o.set 14 _,(HB.o.kept m.o).set_ne P2 _,(HP.o.kept m.o).set_ne P2 _,b9 (Hq.o.since m.o) l,b9 (Hr.o.since m.o) l,(w.o.trans (m.o.mono w.o.size)).setCell (p:=(P0 W 14)) (a8) _⟩
    . obtain ⟨rfl,rfl⟩:=H3.o P2
      have p0:=HP.o.cell 2 rfl;have pl:=HP.o.lt
      have c0:=HA.o.cell 17 rfl;have al:=HA.o.lt
      go_wp2_with fail;refine(G0 wr).mono ?_;rintro e w4 ⟨⟨ga,gc,rfl⟩,r⟩;have o:=a6 (HA.o.kept r)
      have k0:=o.o.cell 17 rfl;have kl:=o.o.lt
      have kf:=fun j=>Lib.frozen_of_heap o.o j
      have m:=a6 r;clear r p0 pl c0 al;go_wp2_with fail
      go_roundg 1
      case measure=>omega
      case rel=>
       have l:¬ (W.heap.size+2 <= W.heap.size):=P2
       have L:=H.o;exact⟨3,g1,h1,g2,h2,ga,gc,g4,h4,rfl,by omega,fun h=>absurd h P2,fun h=>absurd h P2,fun h=>absurd h P2,fun h=>H4.o P2,o.o.set 17 _,(HB.o.kept m.o).set_ne P2 _,(HP.o.kept m.o).set_ne P2 _,b9 (Hq.o.since m.o) l,b9 (Hr.o.since m.o) l,(w.o.trans (m.o.mono w.o.size)).setCell (p:=(P0 W 17)) (a8) _⟩
    . obtain ⟨rfl,rfl⟩:=H4.o P2
      have p0:=HP.o.cell 3 rfl;have pl:=HP.o.lt
      have c0:=HA.o.cell 19 rfl;have al:=HA.o.lt
      go_wp2_with fail;refine(G0 wr).mono ?_;rintro e w4 ⟨⟨ga,gc,rfl⟩,r⟩;have o:=a6 (HA.o.kept r)
      have k0:=o.o.cell 19 rfl;have kl:=o.o.lt
      have kf:=fun j=>Lib.frozen_of_heap o.o j
      have m:=a6 r;clear r p0 pl c0 al;go_wp2_with fail
      go_roundg 0
      case measure=>omega
      case rel=>
       have l:¬ (W.heap.size+2 <= W.heap.size):=P2
       have L:=H.o;exact⟨4,g1,h1,g2,h2,g3,h3,ga,gc,rfl,by omega,fun h=>absurd h P2,fun h=>absurd h P2,fun h=>absurd h P2,fun h=>absurd h P2,o.o.set 19 _,(HB.o.kept m.o).set_ne P2 _,(HP.o.kept m.o).set_ne P2 _,b9 (Hq.o.since m.o) l,b9 (Hr.o.since m.o) l,(w.o.trans (m.o.mono w.o.size)).setCell (p:=(P0 W 19)) (a8) _⟩
    have hl:=At.load (P:=Tryz.prog) HA.o Tryz.underlying55 rfl P3
    simp [go_sem]at hl
    have C: [.int .i64 kd, .slice qa p.length qc, .slice ra d.length rc, .int .i64 pos,v4,v5,v6,v7,v8,v9, .slice xa 0 xc, .bool false, .slice g1 0 h1, .int .i64 0, .slice g2 0 h2, .int .i64 0, .bool false, .slice g3 0 h3, .int .i64 0, .slice g4 0 h4, .int .i64 0].all (·.oneCell')=true:=by
     have h:=K.o;simp only [List.all_cons,List.all_nil,Bool.and_true,Bool.and_eq_true]at h⊢;exact⟨rfl,rfl,rfl,rfl,h.1,h.2.1,h.2.2.1,h.2.2.2.1,h.2.2.2.2.1,h.2.2.2.2.2,rfl,rfl,rfl,rfl,rfl,rfl,rfl,rfl,rfl,rfl,rfl⟩
    obtain⟨w5,h7,V,I⟩:=At.store (P:=Tryz.prog) HB.o (cs':= [kd,(qa,p.length,qc),(ra,d.length,rc),pos,v4,v5,v6,v7,v8,v9, .slice xa 0 xc,false, .slice g1 0 h1,OY, .slice g2 0 h2,OY,false, .slice g3 0 h3,OY, .slice g4 0 h4,OY]) rfl C P3
    simp [go_sem]at h7
    have J0:W.heap.size <= W.heap.size+1:=P2
    have T1:=a6 V;have T2:=a6 (w.o.grown I w.o.size (fun k e=>by cases e;exact J0));have T3:=a6 (i_k Hq.o I P2);have T4:=a6 (i_k Hr.o I P2);clear V I C;go_wp2_with fail;have X:=At.load (P:=Tryz.prog) T1.o Tryz.underlying55 rfl P3
    simp [go_sem]at X
    refine bodyPost_ret (v:= .agg #[kd,(qa,p.length,qc),(ra,d.length,rc),pos,v4,v5,v6,v7,v8,v9, .slice xa 0 xc,false, .slice g1 0 h1,OY, .slice g2 0 h2,OY,false, .slice g3 0 h3,OY, .slice g4 0 h4,OY]) (by simp [results,Tryz.results189,go_sem,X]) rfl ?_;exact⟨⟨qa,qc,ra,rc,xa,xc,v4,v5,v6,v7,v8,v9,g1,g2,g3,g4,h1,h2,h3,h4,rfl,T3.o.keep (a8) (fun _ _ _=>rfl) (fun b hb _=>by omega),T4.o.keep (a8) (fun _ _ _=>rfl) (fun b hb _=>by omega),K.o,H8.o,H9.o⟩,T2.o⟩
end Go.Proofs.YtmadpclcmjahoaaGreatDoor
