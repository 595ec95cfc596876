/- Parts of the proof: CC12. -/
import Derived.Test.YtmadpclcmjahoaaGreatDoorCC11
set_option linter.unusedVariables false
set_option linter.unusedSimpArgs false
set_option maxHeartbeats 8000000
set_option maxRecDepth 100000
namespace Go.Proofs.YtmadpclcmjahoaaGreatDoor
open Go.RowKit Go.Redl
def F7 (w:World) (v:Value) (z:Int) (m:Nat):Prop:=
 ∃ (f:FuncId) (first caps:Array Value),v= .func (.func f) first caps/\(∀args w,(callFunc f args).run Tryz.prog w= .ok (.enter f args) w)/\
   ∀w',Below w w w' ->Calls Tryz.prog f (first ++ caps) w' (b_P w' z m)
theorem F7.cap {w:World} {f:FuncId} {caps:Array Value} {z:Int} {m:Nat} (he:∀args w,(callFunc f args).run Tryz.prog w= .ok (.enter f args) w) (h:∀w',Below w w w' ->Calls Tryz.prog f caps w' (b_P w' z m)):F7 w (.func (.func f) #[] caps) z m:=
 ⟨f, #[],caps,rfl,he,fun w' hb=>by rw [Array.empty_append];exact h w' hb⟩
theorem F7.meth {w:World} {f:FuncId} {first:Array Value} {z:Int} {m:Nat} (he:∀args w,(callFunc f args).run Tryz.prog w= .ok (.enter f args) w) (h:∀w',Below w w w' ->Calls Tryz.prog f first w' (b_P w' z m)):F7 w (.func (.func f) first #[]) z m:=
 ⟨f,first, #[],rfl,he,fun w' hb=>by rw [Array.append_empty];exact h w' hb⟩
theorem c_C (e0 e1 e2 e3 e4 e5 e6 e7 e8 e9 e10 e11:Value) (aa:Option Addr) (ac:Nat) (l:List CZ) (d:Int) (E D:Nat) (W:World) (hE:At W E [e0,e1,e2,e3,e4,e5,e6,e7,e8,e9,e10,e11,(aa,l.length,ac)] 118) (hD:At W D [d] 3)
 (hr:RowA W W 2 aa l.length ac (pQ l)) (hn:l.length <= 100000000):
 Calls Tryz.prog 148 #[.pointer E, .pointer D] W (b_P W (a_b l d) (if d=4 then b_C l (a_b l d).toNat else 1)):=by
 generalize hz:a_b l d=z;generalize hm:(if d=4 then b_C l z.toNat else 1)=m;have HC:=a6 (q_m e0 e1 e2 e3 e4 e5 e6 e7 e8 e9 e10 e11 aa ac l d W hr hn);rw [hz,hm]at HC;obtain⟨⟨x0,x1,x2,x3,x4,x5,x6,x7,x8,x9,x10,x11,x12⟩, -,xl⟩:=hE.f13;obtain⟨y0, -,yl⟩:=hD.f1;clear hE hD hr hz hm;go_enter Tryz.func148,Tryz.ntmps148;go_wp2_with fail;refine HC.o.mono ?_;rintro e w1 ⟨k,rfl,hk,a⟩;have Hk:=a6 hk;have b:=a6 a
 clear hk a HC;go_wp2_with fail;go_ret2;exact⟨_,rfl,Hk.o,b.o⟩
theorem o_9 (d:Int) (E:Nat) (W:World):
 Calls Tryz.prog 147 #[d, .pointer E] W fun e w'=>e= .returned (.func (.func 148) #[] #[.pointer E, .pointer W])/\At w' W [d] 3/\Below W W w':=by
 have Hb:=a6 (b7 W (Obj.cells #[d] 3));have HD:=a6 (At.fresh W [d] 3);have a:∀ (fn:Fn) (first cap:Array Value) (w:World),(Instr.makeFunc fn first cap).run Tryz.prog w= .ok (.func fn first cap) w:=fun _ _ _ _=>rfl
 go_enter Tryz.func147,Tryz.ntmps147
 go_wp2_with fail;go_ret;exact⟨rfl,HD.o,Hb.o⟩
theorem At.f7 {w:World} {N:Nat} {c0 c1 c2 c3 c4 c5 c6:Value} {T:TypeId} (h:At w N [c0,c1,c2,c3,c4,c5,c6] T):(w.cell? N=some c0/\w.cell? (P0 N 1)=some c1/\w.cell? (P0 N 2)=some c2/\w.cell? (P0 N 3)=some c3/\w.cell? (P0 N 4)=some c4/\w.cell? (P0 N 5)=some c5/\w.cell? (P0 N 6)=some c6)/\(∀j,w.frozen? ⟨N,j,none⟩=false)/\N < w.heap.size:=
 ⟨⟨h.cell 0 rfl,h.cell 1 rfl,h.cell 2 rfl,h.cell 3 rfl,h.cell 4 rfl,h.cell 5 rfl,h.cell 6 rfl⟩,fun j=>Lib.frozen_of_heap h _,h.lt⟩
theorem At.s7 {w:World} {N:Nat} {c0 c1 c2 c3 c4 c5 c6:Value} {T:TypeId} (h:At w N [c0,c1,c2,c3,c4,c5,c6] T) (d0 d1 d2 d3 d4 d5 d6:Value):At (((((((w.setCell N d0).setCell (P0 N 1) d1).setCell (P0 N 2) d2).setCell (P0 N 3) d3).setCell (P0 N 4) d4).setCell (P0 N 5) d5).setCell (P0 N 6) d6) N [d0,d1,d2,d3,d4,d5,d6] T:=by
 have h0:At (w.setCell N d0) N [d0,c1,c2,c3,c4,c5,c6] T:=h.set 0 d0;have h1:At ((w.setCell N d0).setCell (P0 N 1) d1) N [d0,d1,c2,c3,c4,c5,c6] T:=h0.set 1 d1;have h2:At (((w.setCell N d0).setCell (P0 N 1) d1).setCell (P0 N 2) d2) N [d0,d1,d2,c3,c4,c5,c6] T:=h1.set 2 d2;have h3:At ((((w.setCell N d0).setCell (P0 N 1) d1).setCell (P0 N 2) d2).setCell (P0 N 3) d3) N [d0,d1,d2,d3,c4,c5,c6] T:=h2.set 3 d3;have h4:At (((((w.setCell N d0).setCell (P0 N 1) d1).setCell (P0 N 2) d2).setCell (P0 N 3) d3).setCell (P0 N 4) d4) N [d0,d1,d2,d3,d4,c5,c6] T:=h3.set 4 d4;have h5:At ((((((w.setCell N d0).setCell (P0 N 1) d1).setCell (P0 N 2) d2).setCell (P0 N 3) d3).setCell (P0 N 4) d4).setCell (P0 N 5) d5) N [d0,d1,d2,d3,d4,d5,c6] T:=h4.set 5 d5;exact h5.set 6 d6
theorem At.n7 {w:World} {N M:Nat} {cs:List Value} {T:TypeId} (h:At w M cs T) (a:M≠N) (d0 d1 d2 d3 d4 d5 d6:Value):At (((((((w.setCell N d0).setCell (P0 N 1) d1).setCell (P0 N 2) d2).setCell (P0 N 3) d3).setCell (P0 N 4) d4).setCell (P0 N 5) d5).setCell (P0 N 6) d6) M cs T:=
 ((((((h.set_ne a _).set_ne a _).set_ne a _).set_ne a _).set_ne a _).set_ne a _).set_ne a _
theorem o_a {B:Nat} {W w:World} {N:Nat} (h:Below B W w) (hN:B <= N) (d0 d1 d2 d3 d4 d5 d6:Value):Below B W (((((((w.setCell ⟨N,0,none⟩ d0).setCell ⟨N,1,none⟩ d1).setCell ⟨N,2,none⟩ d2).setCell ⟨N,3,none⟩ d3).setCell ⟨N,4,none⟩ d4).setCell ⟨N,5,none⟩ d5).setCell ⟨N,6,none⟩ d6):=
 ((((((h.setCell (p:=⟨N,0,none⟩) hN _).setCell (p:=⟨N,1,none⟩) hN _).setCell (p:=⟨N,2,none⟩) hN _).setCell (p:=⟨N,3,none⟩) hN _).setCell (p:=⟨N,4,none⟩) hN _).setCell (p:=⟨N,5,none⟩) hN _).setCell (p:=⟨N,6,none⟩) hN _
theorem e_l (d:Int) (E:Nat) (W:World):
 Calls Tryz.prog 147 (([d]:List Value).toArray ++ #[.pointer E]) W fun e w'=>e= .returned (.func (.func 148) #[] #[.pointer E, .pointer W])/\At w' W [d] 3/\Below W W w':=by
 rw [show (([d]:List Value).toArray ++ #[.pointer E])= #[.int .i64 d, .pointer E]from rfl];exact o_9 d E W
theorem e_m {P:Program} {o:Oper} {a:Act} {w:World} {K:Act ->World ->Prop} {Q:Exit ->Act ->World ->Prop}
 (f:FuncId) (s:Operand) (caps:Array Value) (args:Array Operand) (tys:Array TypeId) (ho:o.op= .call { callee:= .value s,args:=args,argTypes:=tys }) (hs:a.eval s= .func (.func f) #[] caps)
 (he:∀args w,(callFunc f args).run P w= .ok (.enter f args) w) (vals:List Value) (hv:args.toList.map a.eval=vals) (R:Ending ->World ->Prop) (hC:Calls P f (vals.toArray ++ caps) w R)
 (h:∀e w',R e w' ->∃v,e= .returned v/\K (a.put o.dst v) w'):Oper.wp P o a w K Q:=by
 unfold Oper.wp;have b:args.map a.eval=vals.toArray:=VX
 have hr:(execOp a.eval o).run P w= .ok (.enter f (vals.toArray ++ caps)) w:=by
  simp [execOp,ho,resolve,invoke,hs,Deferred.ofValue,b,he]
 rw [hr];show Calls P f (vals.toArray ++ caps) w _;refine hC.mono fun e w' hR=> ?_
 obtain⟨v,rfl,hk⟩:=h e w' hR;exact hk
theorem q_p (e0 e1 e2:Value) (ak:Option Addr) (ck:Nat) (ks:List aX) (css:List Value) (e4 e5 e6 e7 e8 e9:Value) (fl:Int) (e11:Value) (aa:Option Addr) (ac:Nat) (l:List CZ) (W:World) (hn:ks.length <= 100000000) (hk:RowA W W 4 ak ks.length ck css) (A:eX W W ks css)
 (hr:RowA W W 2 aa l.length ac (pQ l)) (hl:l.length <= 100000000):
 Calls Tryz.prog 72 #[.agg #[e0,e1,e2,(ak,ks.length,ck),e4,e5,e6,e7,e8,e9,fl,e11,(aa,l.length,ac)]] W fun e w'=>∃v1 v2 v3 v4 v5 v6,e= .returned (.agg #[.nilFunc,v1,v2,v3,v4,v5,v6])/\
  F7 w' v1 (a_b l 2) 1/\F7 w' v2 (a_b l 3) 1/\F7 w' v3 (a_b l 4) (b_C l (a_b l 4).toNat)/\F7 w' v4 (uZ (BK ks) ks.length) 1/\F7 w' v5 (uZ (J6 ks) ks.length) 1/\F7 w' v6 (if ks.length=0/\fl≠0 then 0 else -1) 1/\Below W W w':=by
 obtain⟨w0,g⟩:∃w0,w0=(W.alloc (Obj.cells #[e0,e1,e2,(ak,ks.length,ck),e4,e5,e6,e7,e8,e9,fl,e11,(aa,l.length,ac)] 118)).alloc (Obj.cells #[.nilFunc, .nilFunc, .nilFunc, .nilFunc, .nilFunc, .nilFunc, .nilFunc] 121):=⟨_,rfl⟩;have B:Below W W w0:=t_A
 have hA:At w0 W [e0,e1,e2,(ak,ks.length,ck),e4,e5,e6,e7,e8,e9,fl,e11,(aa,l.length,ac)] 118:=u_5
 have hZ:At w0 (W+1) [.nilFunc, .nilFunc, .nilFunc, .nilFunc, .nilFunc, .nilFunc, .nilFunc] 121:=by rw [g];exact At.second W _ _ _
 have N:∀ (fn:Fn) (first cap:Array Value) (w:World),(Instr.makeFunc fn first cap).run Tryz.prog w= .ok (.func fn first cap) w:=fun _ _ _ _=>rfl
 have k:=Lib.hid (fun(w':World)=>r_Q e0 e1 e2 ak ks.length ck e4 e5 e6 e7 e8 e9 fl e11 (aa,l.length,ac) w' hn);generalize (if ks.length=0/\fl≠0 then (0:Int) else -1)=zz at k⊢;have Hk:=Lib.hid hk;have O:=Lib.hid A;have Hr:=Lib.hid hr
 have C:=Lib.hid B;have D:=Lib.hid g;have HA:=Lib.hid hA;have HZ:=Lib.hid hZ
 have m:=Lib.hid (fun(w':World) (hb:Below w0 w0 w')=>(HA.out.kept hb).f13.1);obtain⟨⟨x0,x1,x2,x3,x4,x5,x6,x7,x8,x9,x10,x11,x12⟩, -,xl⟩:=hA.f13;have zl:=hZ.lt;clear B hA g hZ hk A hr;go_enter Tryz.func72,Tryz.ntmps72;go_upto_region 1 with fail;rw [<- D.out];clear D;go_wp2_with fail;refine wp_region_noPanic ?_;refine wp_region_held_drew (S:=(fun w'=>w'.cell? W=some (e0)/\w'.cell? (P0 W 1)=some (e1)/\w'.cell? (P0 W 2)=some (e2)/\w'.cell? (P0 W 3)=some (.slice ak ks.length ck)/\w'.cell? (P0 W 4)=some (e4)/\w'.cell? (P0 W 5)=some (e5)/\w'.cell? (P0 W 6)=some (e6)/\w'.cell? (P0 W 7)=some (e7)/\w'.cell? (P0 W 8)=some (e8)/\w'.cell? (P0 W 9)=some (e9)/\w'.cell? (P0 W 10)=some (.int .i64 fl)/\w'.cell? (P0 W 11)=some (e11)/\w'.cell? (P0 W 12)=some (.slice aa l.length ac))) P3 ?_ (fun hHeld=> ?_)
 . exact m.out _ (a7).drew
 refine wpAnyH_take (i:=0) (v:= ?_) rfl P3 P3 P3 (fun _ _ _ h=>h) (Or.inl ⟨by rfl, ?_⟩) UY ?_
 rotate_left
 . intro w a
   try dsimp only at a
   go_simp
   try with_reducible rfl
 try simp only [Act.put,List.getElem_toArray,List.getElem_cons_zero,List.setIfInBounds_toArray,List.set_cons_zero,List.set_cons_succ]
 refine wpAnyH_take (i:=2) (v:= ?_) rfl P3 P3 P3 (fun _ _ _ h=>h) (Or.inl ⟨by rfl, ?_⟩) UY ?_
 rotate_left
 . intro w a
   try dsimp only at a
   go_simp
   try with_reducible rfl
 try simp only [Act.put,List.getElem_toArray,List.getElem_cons_zero,List.getElem_cons_succ,List.setIfInBounds_toArray,List.set_cons_zero,List.set_cons_succ]
 refine wpAnyH_take (i:=4) (v:= ?_) rfl P3 P3 P3 (fun _ _ _ h=>h) (Or.inl ⟨by rfl, ?_⟩) UY ?_
 rotate_left
 . intro w a
   try dsimp only at a
   go_simp
   try with_reducible rfl
 try simp only [Act.put,List.getElem_toArray,List.getElem_cons_zero,List.getElem_cons_succ,List.setIfInBounds_toArray,List.set_cons_zero,List.set_cons_succ]
 refine wpAnyH_take (i:=6) (v:= ?_) rfl P3 P3 P3 (fun _ _ _ h=>h) (Or.inl ⟨by rfl, ?_⟩) UY ?_
 rotate_left
 . intro w a
   try dsimp only at a
   go_simp
   try with_reducible rfl
 try simp only [Act.put,List.getElem_toArray,List.getElem_cons_zero,List.getElem_cons_succ,List.setIfInBounds_toArray,List.set_cons_zero,List.set_cons_succ]
 refine wpAnyH_take (i:=8) (v:= ?_) rfl P3 P3 P3 (fun _ _ _ h=>h) (Or.inl ⟨by rfl, ?_⟩) UY ?_
 rotate_left
 . intro w a
   try dsimp only at a
   go_simp
   try with_reducible rfl
 try simp only [Act.put,List.getElem_toArray,List.getElem_cons_zero,List.getElem_cons_succ,List.setIfInBounds_toArray,List.set_cons_zero,List.set_cons_succ]
 refine wpAnyH_take (i:=10) (v:= ?_) rfl P3 P3 P3 (fun _ _ _ h=>h) (Or.inl ⟨by rfl, ?_⟩) UY ?_
 rotate_left
 . intro w a
   try dsimp only at a
   go_simp
   try with_reducible rfl
 try simp only [Act.put,List.getElem_toArray,List.getElem_cons_zero,List.getElem_cons_succ,List.setIfInBounds_toArray,List.set_cons_zero,List.set_cons_succ]
 refine wpAnyH_take (i:=7) (v:= ?_) rfl P3 P3 P3 (fun _ _ _ h=>h) (Or.inl ⟨by rfl, ?_⟩) UY ?_
 rotate_left
 . intro w a
   try dsimp only at a
   go_simp
   try with_reducible rfl
 try simp only [Act.put,List.getElem_toArray,List.getElem_cons_zero,List.getElem_cons_succ,List.setIfInBounds_toArray,List.set_cons_zero,List.set_cons_succ]
 refine wpAnyH_take (i:=9) (v:= ?_) rfl P3 P3 P3 (fun _ _ _ h=>h) (Or.inl ⟨by rfl, ?_⟩) UY ?_
 rotate_left
 . intro w a
   try dsimp only at a
   go_simp
   try with_reducible rfl
 try simp only [Act.put,List.getElem_toArray,List.getElem_cons_zero,List.getElem_cons_succ,List.setIfInBounds_toArray,List.set_cons_zero,List.set_cons_succ]
 refine wpAnyH_take (i:=11) (v:= ?_) rfl P3 P3 P3 (fun _ _ _ h=>h) (Or.inl ⟨by rfl, ?_⟩) UY ?_
 rotate_left
 . intro w a
   try dsimp only at a
   go_simp
   try with_reducible rfl
 try simp only [Act.put,List.getElem_toArray,List.getElem_cons_zero,List.getElem_cons_succ,List.setIfInBounds_toArray,List.set_cons_zero,List.set_cons_succ]
 refine wpAnyH_ready (rs:= [1]) P3 P6 ?_;refine AllReadyH.cons rfl (fun K hK=> ?_) AllReadyH.nil;rw [if_pos (by rfl)];simp only [List.getElem_toArray,List.getElem_cons_zero,List.getElem_cons_succ];refine e_m 147 _ #[.pointer W] _ _ rfl ?_ P5 [.int .i64 2] ?_ _ (e_l 2 W w0.drew) ?_
 . go_simp
 . go_simp
 rintro e w1 ⟨rfl,hd,b⟩;refine⟨_,rfl, ?_⟩;have E:=Lib.hid hd;have H9:=Lib.hid b;have o:=Lib.hid (((Below.refl w0 w0).drew).trans (b.mono ((Below.refl w0 w0).drew).size));clear b hd;refine hK.out _ _ ?_ (fun hHeld=> ?_)
 . exact m.out _ o.out
 clear hK K;try simp only [Act.put,List.getElem_toArray,List.getElem_cons_zero,List.getElem_cons_succ,List.setIfInBounds_toArray,List.set_cons_zero,List.set_cons_succ]
 refine wpAnyH_ready (rs:= [3]) P3 P6 ?_;refine AllReadyH.cons rfl (fun K hK=> ?_) AllReadyH.nil;rw [if_pos (by rfl)];simp only [List.getElem_toArray,List.getElem_cons_zero,List.getElem_cons_succ];refine e_m 147 _ #[.pointer W] _ _ rfl ?_ P5 [.int .i64 3] ?_ _ (e_l 3 W w1) ?_
 . go_simp
 . go_simp
 rintro e w2 ⟨rfl,hd,b⟩;refine⟨_,rfl, ?_⟩;have F:=Lib.hid hd;have G:=Lib.hid b;have p:=Lib.hid ((o.out).trans (b.mono (o.out).size));clear b hd;refine hK.out _ _ ?_ (fun hHeld=> ?_)
 . exact m.out _ p.out
 clear hK K;try simp only [Act.put,List.getElem_toArray,List.getElem_cons_zero,List.getElem_cons_succ,List.setIfInBounds_toArray,List.set_cons_zero,List.set_cons_succ]
 refine wpAnyH_ready (rs:= [5]) P3 P6 ?_;refine AllReadyH.cons rfl (fun K hK=> ?_) AllReadyH.nil;rw [if_pos (by rfl)];simp only [List.getElem_toArray,List.getElem_cons_zero,List.getElem_cons_succ];refine e_m 147 _ #[.pointer W] _ _ rfl ?_ P5 [.int .i64 4] ?_ _ (e_l 4 W w2) ?_
 . go_simp
 . go_simp
 rintro e w3 ⟨rfl,hd,b⟩;refine⟨_,rfl, ?_⟩;have H:=Lib.hid hd;have I:=Lib.hid b;have f:=Lib.hid ((p.out).trans (b.mono (p.out).size));clear b hd;refine hK.out _ _ ?_ (fun hHeld=> ?_)
 . exact m.out _ f.out
 clear hK K;try simp only [Act.put,List.getElem_toArray,List.getElem_cons_zero,List.getElem_cons_succ,List.setIfInBounds_toArray,List.set_cons_zero,List.set_cons_succ]
 refine wpAnyH_take (i:=12) (v:= ?_) rfl P3 P3 P3 (fun _ _ _ h=>h) (Or.inl ⟨by rfl, ?_⟩) UY ?_
 rotate_left
 . intro w a
   try dsimp only at a
   go_simp
   try with_reducible rfl
 try simp only [Act.put,List.getElem_toArray,List.getElem_cons_zero,List.getElem_cons_succ,List.setIfInBounds_toArray,List.set_cons_zero,List.set_cons_succ]
 clear N;obtain⟨v1,q,P⟩:∃v,v=(Value.func (.func 148) #[] #[.pointer W, .pointer w0.drew.heap.size])/\v.oneCell'=true:=⟨_,rfl,rfl⟩;obtain⟨v2,s,Q⟩:∃v,v=(Value.func (.func 148) #[] #[.pointer W, .pointer w1])/\v.oneCell'=true:=⟨_,rfl,rfl⟩;obtain⟨v3,t,R⟩:∃v,v=(Value.func (.func 148) #[] #[.pointer W, .pointer w2])/\v.oneCell'=true:=⟨_,rfl,rfl⟩;obtain⟨v4,u,T⟩:∃v,v=(Value.func (.func 150) #[.agg #[e0,e1,e2,(ak,ks.length,ck),e4,e5,e6,e7,e8,e9,fl,e11,(aa,l.length,ac)]] #[])/\v.oneCell'=true:=⟨_,rfl,rfl⟩;obtain⟨v5,x,U⟩:∃v,v=(Value.func (.func 151) #[.agg #[e0,e1,e2,(ak,ks.length,ck),e4,e5,e6,e7,e8,e9,fl,e11,(aa,l.length,ac)]] #[])/\v.oneCell'=true:=⟨_,rfl,rfl⟩;obtain⟨v6,y,V⟩:∃v,v=(Value.func (.func 152) #[.agg #[e0,e1,e2,(ak,ks.length,ck),e4,e5,e6,e7,e8,e9,fl,e11,(aa,l.length,ac)]] #[])/\v.oneCell'=true:=⟨_,rfl,rfl⟩;have X:Below W W w3:=C.out.trans (f.out.mono C.out.size);rw [<- q, <- s, <- t, <- u, <- x, <- y];rw [show Value.func (.func 148) #[] #[.pointer W, .pointer w0]=v1 from q.symm];have Y:=Lib.hid q;have Z:=Lib.hid s;have H0:=Lib.hid t;have H1:=Lib.hid u;have H2:=Lib.hid x;have H3:=Lib.hid y;clear q s t u x y;obtain⟨⟨z0,z1,z2,z3,z4,z5,z6⟩,zf,zl3⟩:=(HZ.out.kept f.out).f7;refine wpAnyH_ready (rs:= [13]) P3 P6 ?_;refine AllReadyH.cons rfl (fun K hK=> ?_) AllReadyH.nil;rw [if_pos (by rfl)];simp only [List.getElem_toArray,List.getElem_cons_zero,List.getElem_cons_succ];refine wp_store_mid 121 _ _ rfl (W.heap.size+1) 0 #[.nilFunc,v1,v2,v3,v4,v5,v6] rfl rfl (fun j hj=> ?_) rfl (by simp [P,Q,R,T,U,V];rfl) ?_
 . have h7:j=0∨j=1∨j=2∨j=3∨j=4∨j=5∨j=6:=YK
   rcases h7 with rfl | rfl | rfl | rfl | rfl | rfl | rfl
   . exact⟨by rw [z0];rfl,zf _⟩
   . exact⟨by rw [z1];rfl,zf _⟩
   . exact⟨by rw [z2];rfl,zf _⟩
   . exact⟨by rw [z3];rfl,zf _⟩
   . exact⟨by rw [z4];rfl,zf _⟩
   . exact⟨by rw [z5];rfl,zf _⟩
   exact⟨by rw [z6];rfl,zf _⟩
 simp only [World.setCells,O5,Nat.reduceAdd];refine hK.out _ _ ?_ (fun hHeld=> ?_)
 . exact((HA.out.kept f.out).n7 P2 _ _ _ _ _ _ _).f13.1
 clear hK K hHeld;refine wpAnyH_done P3 ?_ _;refine NoPanic.normal ?_;obtain⟨w8,d⟩:∃w8,w8=(((((((w3.setCell (P0 (W+1) 0) .nilFunc).setCell (P0 (W+1) 1) v1).setCell (P0 (W+1) 2) v2).setCell (P0 (W+1) 3) v3).setCell (P0 (W+1) 4) v4).setCell (P0 (W+1) 5) v5).setCell (P0 (W+1) 6) v6):=⟨_,rfl⟩;have J:At w8 (W+1) [.nilFunc,v1,v2,v3,v4,v5,v6] 121:=by rw [d];exact(HZ.out.kept f.out).s7 .nilFunc v1 v2 v3 v4 v5 v6
 have L:Below W W w8:=by rw [d];exact o_a X (show W.heap.size <= W.heap.size+1 by omega) .nilFunc v1 v2 v3 v4 v5 v6
 have z:=Lib.hid (show At w8 W [e0,e1,e2,(ak,ks.length,ck),e4,e5,e6,e7,e8,e9,fl,e11,(aa,l.length,ac)] 118 by rw [d];exact(HA.out.kept f.out).n7 P2 .nilFunc v1 v2 v3 v4 v5 v6);have H4:=Lib.hid (show At w8 w0.drew.heap.size [.int .i64 2] 3 by rw [d];exact(E.out.kept (G.out.trans (I.out.mono G.out.size))).n7 (show w0.heap.size≠W.heap.size+1 by omega) .nilFunc v1 v2 v3 v4 v5 v6);have H7:=o.out.size;have H8:=p.out.size
 have H5:=Lib.hid (show At w8 w1 [.int .i64 3] 3 by rw [d];exact(F.out.kept I.out).n7 P2 .nilFunc v1 v2 v3 v4 v5 v6);have H6:=Lib.hid (show At w8 w2 [.int .i64 4] 3 by rw [d];exact H.out.n7 P2 .nilFunc v1 v2 v3 v4 v5 v6);rw [<- d];clear z0 z1 z2 z3 z4 z5 z6 zf zl3;obtain⟨⟨z0,z1,z2,z3,z4,z5,z6⟩,zf7,zl7⟩:=J.f7;have c:=Lib.hid L;clear J L d HA m E F H;go_wp2_with fail;refine bodyPost_ret (v:= .agg #[.nilFunc,v1,v2,v3,v4,v5,v6]) (by simp [results,Tryz.results72,go_sem,z0,z1,z2,z3,z4,z5,z6]) rfl ?_;have n:=fun(w':World) (hb:Below w8 w8 w')=>Hr.out.keep (c.out.trans (hb.mono c.out.size)) (c.out.trans (hb.mono c.out.size)).size
 have M:=fun(w':World) (hb:Below w8 w8 w')=>Hk.out.keep (c.out.trans (hb.mono c.out.size)) (c.out.trans (hb.mono c.out.size)).size
 have r:=fun(w':World) (hb:Below w8 w8 w')=>eX.keep (c.out.trans (hb.mono c.out.size)) (c.out.trans (hb.mono c.out.size)).size _ _ O.out
 refine⟨v1,v2,v3,v4,v5,v6,rfl, ?_, ?_, ?_, ?_, ?_, ?_,c.out⟩
 . rw [Y.out];exact F7.cap P5 fun w' hb=>c_C e0 e1 e2 (ak,ks.length,ck) e4 e5 e6 e7 e8 e9 fl e11 aa ac l 2 W w0.drew.heap.size w' (z.out.kept hb) (H4.out.kept hb) (n w' hb) hl
 . rw [Z.out];exact F7.cap P5 fun w' hb=>c_C e0 e1 e2 (ak,ks.length,ck) e4 e5 e6 e7 e8 e9 fl e11 aa ac l 3 W w1 w' (z.out.kept hb) (H5.out.kept hb) (n w' hb) hl
 . rw [H0.out];exact F7.cap P5 fun w' hb=>c_C e0 e1 e2 (ak,ks.length,ck) e4 e5 e6 e7 e8 e9 fl e11 aa ac l 4 W w2 w' (z.out.kept hb) (H6.out.kept hb) (n w' hb) hl
 . rw [H1.out];exact F7.meth P5 fun w' hb=>q_o e0 e1 e2 ak ck ks css e4 e5 e6 e7 e8 e9 fl e11 (aa,l.length,ac) w' hn (M w' hb) (r w' hb)
 . rw [H2.out];exact F7.meth P5 fun w' hb=>q_n e0 e1 e2 ak ck ks css e4 e5 e6 e7 e8 e9 fl e11 (aa,l.length,ac) w' hn (M w' hb) (r w' hb)
 rw [H3.out];exact F7.meth P5 fun w' hb=>k.out w'
theorem m_3 {r:bK} {ks:List aX} {c:Int} {cs:List Int} {j:Int} (h:gV r ks c=j) (h0:0 <= j):wZ r ks (c::cs)=(c,j,(j7 r ks c:Int)):=by
 unfold wZ;rw [h,if_pos h0]
theorem r_S (o0 o1 o2 o3 o4 o5:Int) (k:Nat) (hk:k < 6):∀w:World,(Instr.index 28 (.agg #[o0,o1,o2,o3,o4,o5]) k).run Tryz.prog w= .ok (.int .i64 ([o0,o1,o2,o3,o4,o5].getD k 0)) w:=by
 have h:k=0∨k=1∨k=2∨k=3∨k=4∨k=5:=P2
 rcases h with rfl | rfl | rfl | rfl | rfl | rfl
 all_goals
  intro w;kernel_rfl
abbrev s_v (W:World) (f:vJ) (e:Ending) (w':World):Prop:=e= .returned (.agg #[f.1,f.2.1,f.2.2])/\Below W W w'
theorem _root_.Go.Redl.Below.and {w0 w w1:World} (h:Below w0 w0 w) (h1:Below w w w1):Below w0 w0 w1:=h.trans (h1.mono h.size)
theorem j_M {p q:Nat ->Bool} {n:Nat} (h:∀i,i < n ->p i=q i):uZ p n=uZ q n:=by
 rcases jV q n with⟨k,hk,hp,hm,he⟩ | ⟨hm,he⟩
 . rw [he];exact vQ hk (by rw [h k hk];exact hp) (fun j hj=>by rw [h j P2];exact hm j hj)
 rw [he];exact tK (fun j hj=>by rw [h j hj];exact hm j hj)
theorem g_Q (r:bK) (ks:List aX) (d:Int):a_b (m9 r ks) d=uZ (fun i=>decide ((eQ r (cY ks i)).1=d)) ks.length:=by
 unfold a_b;rw [show (m9 r ks).length=ks.length by simp];refine j_M fun i hi=> ?_
 rw [A0 hi];simp [List.getD,NV hi]
theorem o_b (r:bK) (ks:List aX):gV r ks 1=a_b (m9 r ks) 2:=by
 rw [g_Q];unfold gV;rw [if_neg P2];congr 1
theorem o_c (r:bK) (ks:List aX):gV r ks 2=a_b (m9 r ks) 3:=by
 rw [g_Q];unfold gV;rw [if_neg P2];congr 1
theorem j_N (r:bK) (ks:List aX):gV r ks 3=a_b (m9 r ks) 4:=by
 rw [g_Q];unfold gV;rw [if_neg P2];congr 1
theorem AY (r:bK) (ks:List aX):gV r ks 6=if ks.length=0/\r.fill≠0 then 0 else -1:=by
 unfold gV;rw [if_pos rfl]
theorem o_d:(Tryz.prog.info? 24).map (fun i=>(i.zero,i.size,i.bytes))=some (some (.agg #[OY, .string ⟨#[]⟩]),2,24):=P3
theorem e_n:∀args w,(callFunc 53 args).run Tryz.prog w= .ok (.enter 53 args) w:=PY
def qX (n:Nat):List Value:=(List.replicate n (0,([]:List UInt8))).flatMap tJ
theorem m_4 (n:Nat):(madeCells (#[OY, .string ⟨#[]⟩]:Array Value) (n * 2))=(qX n).toArray:=by
 apply Array.ext'
 unfold madeCells qX;simp only [Array.toList_map,Array.toList_range];induction n with
 | zero=>simp
 | succ n ih=>
   rw [show (n+1) * 2=n * 2+1+1 by omega,List.range_succ,List.range_succ,List.replicate_succ',List.flatMap_append];simp only [List.map_append,O4,ih];congr 1
   simp [tJ,aZ]
theorem m_5 (n:Nat) (hn:n <= 100000000) (w:World):
 (Instr.makeSlice 116 (n:Int) (n:Int)).run Tryz.prog w= .ok (.slice w n n) (w.alloc (.cells (qX n).toArray 24)):=by
 obtain⟨i,hi,hz,hs,hb⟩:∃i,Tryz.prog.info? 24=some i/\i.zero=some (.agg #[OY, .string ⟨#[]⟩])/\i.size=2/\i.bytes=24:=by
  obtain⟨i,hi,a⟩:=Option.map_eq_some_iff.1 o_d;simp only [Prod.mk.injEq]at a;exact⟨i,hi,a⟩
 have hr:=run_make (P:=Tryz.prog) w 116 24 i _ Tryz.underlying116 hi hz .i64 .i64 n n P2 (Int.le_refl _) (by rw [hb];omega) P2;simp only [O0,hs,Value.cells]at hr;rw [hr,m_4]
theorem At.s13 {w:World} {N:Nat} {c0 c1 c2 c3 c4 c5 c6 c7 c8 c9 c10 c11 c12:Value} {T:TypeId} (h:At w N [c0,c1,c2,c3,c4,c5,c6,c7,c8,c9,c10,c11,c12] T) (d0 d1 d2 d3 d4 d5 d6 d7 d8 d9 d10 d11 d12:Value):At (((((((((((((w.setCell N d0).setCell (P0 N 1) d1).setCell (P0 N 2) d2).setCell (P0 N 3) d3).setCell (P0 N 4) d4).setCell (P0 N 5) d5).setCell (P0 N 6) d6).setCell (P0 N 7) d7).setCell (P0 N 8) d8).setCell (P0 N 9) d9).setCell (P0 N 10) d10).setCell (P0 N 11) d11).setCell (P0 N 12) d12) N [d0,d1,d2,d3,d4,d5,d6,d7,d8,d9,d10,d11,d12] T:=by
 have h0:At (w.setCell N d0) N [d0,c1,c2,c3,c4,c5,c6,c7,c8,c9,c10,c11,c12] T:=h.set 0 d0;have h1:At ((w.setCell N d0).setCell (P0 N 1) d1) N [d0,d1,c2,c3,c4,c5,c6,c7,c8,c9,c10,c11,c12] T:=h0.set 1 d1;have h2:At (((w.setCell N d0).setCell (P0 N 1) d1).setCell (P0 N 2) d2) N [d0,d1,d2,c3,c4,c5,c6,c7,c8,c9,c10,c11,c12] T:=h1.set 2 d2;have h3:At ((((w.setCell N d0).setCell (P0 N 1) d1).setCell (P0 N 2) d2).setCell (P0 N 3) d3) N [d0,d1,d2,d3,c4,c5,c6,c7,c8,c9,c10,c11,c12] T:=h2.set 3 d3;have h4:At (((((w.setCell N d0).setCell (P0 N 1) d1).setCell (P0 N 2) d2).setCell (P0 N 3) d3).setCell (P0 N 4) d4) N [d0,d1,d2,d3,d4,c5,c6,c7,c8,c9,c10,c11,c12] T:=h3.set 4 d4;have h5:At ((((((w.setCell N d0).setCell (P0 N 1) d1).setCell (P0 N 2) d2).setCell (P0 N 3) d3).setCell (P0 N 4) d4).setCell (P0 N 5) d5) N [d0,d1,d2,d3,d4,d5,c6,c7,c8,c9,c10,c11,c12] T:=h4.set 5 d5;have h6:At (((((((w.setCell N d0).setCell (P0 N 1) d1).setCell (P0 N 2) d2).setCell (P0 N 3) d3).setCell (P0 N 4) d4).setCell (P0 N 5) d5).setCell (P0 N 6) d6) N [d0,d1,d2,d3,d4,d5,d6,c7,c8,c9,c10,c11,c12] T:=h5.set 6 d6;have h7:At ((((((((w.setCell N d0).setCell (P0 N 1) d1).setCell (P0 N 2) d2).setCell (P0 N 3) d3).setCell (P0 N 4) d4).setCell (P0 N 5) d5).setCell (P0 N 6) d6).setCell (P0 N 7) d7) N [d0,d1,d2,d3,d4,d5,d6,d7,c8,c9,c10,c11,c12] T:=h6.set 7 d7;have h8:At (((((((((w.setCell N d0).setCell (P0 N 1) d1).setCell (P0 N 2) d2).setCell (P0 N 3) d3).setCell (P0 N 4) d4).setCell (P0 N 5) d5).setCell (P0 N 6) d6).setCell (P0 N 7) d7).setCell (P0 N 8) d8) N [d0,d1,d2,d3,d4,d5,d6,d7,d8,c9,c10,c11,c12] T:=h7.set 8 d8;have h9:At ((((((((((w.setCell N d0).setCell (P0 N 1) d1).setCell (P0 N 2) d2).setCell (P0 N 3) d3).setCell (P0 N 4) d4).setCell (P0 N 5) d5).setCell (P0 N 6) d6).setCell (P0 N 7) d7).setCell (P0 N 8) d8).setCell (P0 N 9) d9) N [d0,d1,d2,d3,d4,d5,d6,d7,d8,d9,c10,c11,c12] T:=h8.set 9 d9;have a:At (((((((((((w.setCell N d0).setCell (P0 N 1) d1).setCell (P0 N 2) d2).setCell (P0 N 3) d3).setCell (P0 N 4) d4).setCell (P0 N 5) d5).setCell (P0 N 6) d6).setCell (P0 N 7) d7).setCell (P0 N 8) d8).setCell (P0 N 9) d9).setCell (P0 N 10) d10) N [d0,d1,d2,d3,d4,d5,d6,d7,d8,d9,d10,c11,c12] T:=h9.set 10 d10;have b:At ((((((((((((w.setCell N d0).setCell (P0 N 1) d1).setCell (P0 N 2) d2).setCell (P0 N 3) d3).setCell (P0 N 4) d4).setCell (P0 N 5) d5).setCell (P0 N 6) d6).setCell (P0 N 7) d7).setCell (P0 N 8) d8).setCell (P0 N 9) d9).setCell (P0 N 10) d10).setCell (P0 N 11) d11) N [d0,d1,d2,d3,d4,d5,d6,d7,d8,d9,d10,d11,c12] T:=a.set 11 d11;exact b.set 12 d12
theorem At.n13 {w:World} {N M:Nat} {cs:List Value} {T:TypeId} (h:At w M cs T) (a:M≠N) (d0 d1 d2 d3 d4 d5 d6 d7 d8 d9 d10 d11 d12:Value):At (((((((((((((w.setCell N d0).setCell (P0 N 1) d1).setCell (P0 N 2) d2).setCell (P0 N 3) d3).setCell (P0 N 4) d4).setCell (P0 N 5) d5).setCell (P0 N 6) d6).setCell (P0 N 7) d7).setCell (P0 N 8) d8).setCell (P0 N 9) d9).setCell (P0 N 10) d10).setCell (P0 N 11) d11).setCell (P0 N 12) d12) M cs T:=
 ((((((((((((h.set_ne a _).set_ne a _).set_ne a _).set_ne a _).set_ne a _).set_ne a _).set_ne a _).set_ne a _).set_ne a _).set_ne a _).set_ne a _).set_ne a _).set_ne a _
theorem o_e {w:World} {ok:Nat ->Prop} {sz n cap N:Nat} {a:Option Addr} {cs:List Value} (h:RowQ w ok sz a n cap cs) (b:¬ok N) (d0 d1 d2 d3 d4 d5 d6 d7 d8 d9 d10 d11 d12:Value):RowQ (((((((((((((w.setCell N d0).setCell (P0 N 1) d1).setCell (P0 N 2) d2).setCell (P0 N 3) d3).setCell (P0 N 4) d4).setCell (P0 N 5) d5).setCell (P0 N 6) d6).setCell (P0 N 7) d7).setCell (P0 N 8) d8).setCell (P0 N 9) d9).setCell (P0 N 10) d10).setCell (P0 N 11) d11).setCell (P0 N 12) d12) ok sz a n cap cs:=
 b9 (b9 (b9 (b9 (b9 (b9 (b9 (b9 (b9 (b9 (b9 (b9 (b9 h b) b) b) b) b) b) b) b) b) b) b) b) b
theorem At.drew {w:World} {N:Nat} {cs:List Value} {T:TypeId} (h:At w N cs T):At w.drew N cs T:=h
theorem At.lay {w:World} {N:Nat} {cs:List Value} {T:TypeId} {G:Prop} (h:At w N cs T) (k:Hid (At w N cs T) ->G):G:=k h
theorem A7 {w:World} {ok:Nat ->Prop} {sz n cap:Nat} {a:Option Addr} {cs:List Value} (h:RowQ w ok sz a n cap cs) (o:Obj):RowQ (w.alloc o) ok sz a n cap cs:=
 h.keep P6 (fun b _ c=>Lib.alloc_old _ _ _ c) (fun _ hb _=>hb)
theorem At.fresh2 {W:World} {N:Nat} {cs:List Value} {T:TypeId} (h:N=W.heap.size):At (W.alloc (.cells cs.toArray T)) N cs T:=h ▸ At.fresh W cs T
theorem a_T (m:Nat):qX (m+1)= .int .i64 0::aZ []::qX m:=by
 simp [qX,List.replicate_succ,tJ]
theorem m_6 {w:World} {N k m:Nat} {l:List CZ} {T:TypeId} (hl:l.length=k) (hm:0 < m) (h:At w N (pQ l ++ qX m) T):
 w.cell? (N,k * 2)=some (.int .i64 0)/\w.cell? (N,k * 2+1)=some (aZ [])/\∀j,w.frozen? ⟨N,j,none⟩=false:=by
 obtain⟨m,rfl⟩:∃m',m=m'+1:=⟨m - 1,by omega⟩;have hr:=b_c l;rw [a_T]at h;refine⟨h.cell _ ?_,h.cell _ ?_,fun j=>Lib.frozen_of_heap h _⟩
 . rw [OX P2,hr,hl,Nat.sub_self];rfl
 rw [OX P2,hr,hl,Nat.add_sub_cancel_left];rfl
theorem o_f {w:World} {N k m:Nat} {l:List CZ} {T:TypeId} (A:CZ) (hl:l.length=k) (hm:0 < m) (h:At w N (pQ l ++ qX m) T):
 At ((w.setCell (N,k * 2) A.1).setCell (N,k * 2+1) (aZ A.2)) N (pQ (l ++ [A]) ++ qX (m - 1)) T:=by
 obtain⟨m,rfl⟩:∃m',m=m'+1:=⟨m - 1,by omega⟩;have hr:=b_c l;have h2:=(h.set (k * 2) A.1).set (k * 2+1) (aZ A.2);rw [a_T,List.set_append_right _ _ P2,hr,hl,Nat.sub_self,List.set_append_right _ _ P2,hr,hl,Nat.add_sub_cancel_left]at h2;have e:pQ (l ++ [A])=pQ l ++ [.int .i64 A.1,aZ A.2]:=by simp [pQ,tJ]
 rw [e];simpa using h2
theorem o_g {w:World} {N:Nat} {l:List CZ} {T:TypeId} (hl:l.length <= 100000000) (h:At w N (pQ l) T):RowA w w 2 N l.length l.length (pQ l):=by
 refine⟨b_c l,a8,by unfold maxLen;omega,fun u hu=> ?_,(fun e=>by cases e),fun _=>⟨N,0,rfl,h.lt,fun j u hj=>by rw [O5];exact h.cell j hj⟩⟩;unfold pQ at hu;obtain⟨a, -,ha⟩:=List.mem_flatMap.1 hu
 simp [tJ]at ha
 rcases ha with rfl | rfl <;> rfl
theorem b_e {r:bK} {ks:List aX} {c:Int} {cs:List Int} (h:¬0 <= gV r ks c):wZ r ks (c::cs)=wZ r ks cs:=by
 conv=>lhs;unfold wZ
 rw [if_neg h]
theorem j_O (s:b5) (sv:Value) (n:aX) (v:Value) (W:World) (J8:s.wt <= 100000000) (hw:n.wt <= 100000000) (hs:SchemaV W W s sv) (hv:bY W W n v):
 Calls Tryz.prog 16 #[sv,v] W (s_v W (eV s n)):=by
 have J9:=hv;have j0:=hs
 obtain⟨lf,ps,t,ks⟩:=n;obtain⟨ap,cp,at_,ct,ak,ck,css,rfl, -, -,hk,j1⟩:=J9.open;obtain⟨a,c,rcss,ea,ec,o0,o1,o2,o3,o4,o5,rfl, -, -, -,ho⟩:=j0.open;have H6:(cJ s (dZ (.mk lf ps t ks))).kids.length <= 100000000:=by have:=M0 (cJ s (dZ (.mk lf ps t ks)));have:=a_B s (dZ (.mk lf ps t ks));omega
 have V:ks.length <= 100000000:=by have:=i7 ks;simp only [aX.wt]at hw;omega
 have hF:eV s (.mk lf ps t ks)=if lf then (0,0,0) else wZ (cJ s (dZ (.mk lf ps t ks))) ks [o0,o1,o2,o3,o4,o5]:=by
  unfold eV;rw [ho];rfl
 obtain⟨F,j2⟩:∃F,F=eV s (.mk lf ps t ks):=⟨_,rfl⟩;rw [<- j2]at hF⊢;have H7:=fun(k:List UInt8) (w1:World) (hb:Below W W w1)=>b_O s _ k w1 J8 (hs.keep hb hb.size)
 have H8:=fun(w1:World) (hb:Below W W w1)=>j_i (.mk lf ps t ks) _ w1 hw (hv.keep hb hb.size)
 have H9:=fun(ra:Option Addr) (rc:Nat) (q:aX) (qv:Value) (w1:World) (hr) (hq:bY w1 w1 q qv) (X:q.wt <= 100000000)=>k_S (cJ s (dZ (.mk lf ps t ks))) ra rc q qv w1 hr H6 hq X
 have X:∀q∈ks,q.wt <= 100000000:=fun q hq=>by have:=jJ hq;simp only [aX.wt]at hw;omega
 generalize dZ (.mk lf ps t ks)=ty at H7 H8 H9 hF H6;obtain⟨w0,D⟩:∃w0,w0=(((W.alloc (Obj.cells #[(a,s.rules.length,c),aZ s.els.type,s.els.text.1,aZ s.els.text.2,s.els.other.1,aZ s.els.other.2,(ea,s.els.kids.length,ec),s.els.fill,aZ s.els.fillT,o0,o1,o2,o3,o4,o5,s.cap] 30)).alloc (Obj.cells #[lf,(ap,ps.length,cp),(at_,t.length,ct),(ak,ks.length,ck)] 35)).alloc (Obj.cells #[OY,OY,OY] 60)):=⟨_,rfl⟩;have j3:Below W W w0:=by rw [D];exact iK _ _ _ _
 have hA:At w0 W [(a,s.rules.length,c),aZ s.els.type,s.els.text.1,aZ s.els.text.2,s.els.other.1,aZ s.els.other.2,(ea,s.els.kids.length,ec),s.els.fill,aZ s.els.fillT,o0,o1,o2,o3,o4,o5,s.cap] 30:=by rw [D];exact((At.fresh W _ _).alloc _).alloc _
 have hX:At w0 (W+1) [lf,(ap,ps.length,cp),(at_,t.length,ct),(ak,ks.length,ck)] 35:=by rw [D];exact(At.second W _ _ _).alloc _
 have hZ:At w0 (W.heap.size+1+1) [OY,OY,OY] 60:=by rw [D];exact At.third W _ _ _ _
 have h3:W.heap.size <= W.heap.size+1+1:=P2
 have Y:=a6 D;have x:=a6 j3;have HA:=a6 hA;have HX:=a6 hX;have HZ:=a6 hZ
 have HF:=a6 hF;have h4:=a6 H7;have h5:=a6 H8;have Z:=a6 H9
 have Hk:=a6 hk;have h7:=a6 j1;have j4:=a6 X
 obtain⟨⟨x0,x1,x2,x3,x4,x5,x6,x7,x8,x9,x10,x11,x12,x13,x14,x15⟩, -,xl⟩:=hA.f16;obtain⟨⟨y0,y1,y2,y3⟩, -,yl⟩:=hX.f4;obtain⟨⟨z0,z1,z2⟩,zf,zl⟩:=hZ.f3;clear D j3 hA hX hZ hF H7 H8 H9 hk j1 X hv J9 hs j0 j2 ho J8 hw;cases lf with
 | true=>
   clear h4 h5 Z HA HX;go_enter Tryz.func16,Tryz.ntmps16;go_upto_region 1 with fail;rw [<- Y.o];clear Y;go_wp2_with fail;refine bodyPost_ret (v:= .agg #[OY,OY,OY]) W4 rfl ?_;rw [HF.o];exact⟨rfl,d_T x.o h3 _ _ _⟩
 | false =>
   have J:=a6 (fun(w1:World) (hb:Below w0 w0 w1)=>h4.o ty w1 (x.o.trans (hb.mono x.o.size)));have H4:=a6 (fun(w1:World) (hb:Below w0 w0 w1)=>h5.o w1 (x.o.trans (hb.mono x.o.size)));clear h4 h5;generalize cJ s ty=R at HF J Z H6;have j5:=a6 (show F=wZ R ks [o0,o1,o2,o3,o4,o5]from HF.o);clear HF;go_enter Tryz.func16,Tryz.ntmps16;go_upto_region 1 with fail;rw [<- Y.o];clear Y;go_upto_region 3 with fail
   go_cut [5] (fun p wx=>∃ (M M2:Nat) (ra:Option Addr) (rc:Nat),p= .pointer M/\At wx M [false,(ap,ps.length,cp),(at_,t.length,ct),(ak,ks.length,ck),aZ R.type,R.text.1,aZ R.text.2,R.other.1,aZ R.other.2,(ra,R.kids.length,rc),R.fill,aZ R.fillT,(M2,ks.length,ks.length)] 118/\At wx M2 (qX ks.length) 24/\M≠M2/\w0.heap.size <= M/\w0.heap.size <= M2/\
    RowQ wx (fun b=>b≠M/\b≠M2) 3 ra R.kids.length rc (fV R.kids)/\Below w0 w0 wx)
   case first=>
    clear j5 Z Hk h7 j4 HZ z0 z1 z2 zf zl x0 x1 x2 x3 x4 x5 x6 x7 x8 x9 x10 x11 x12 x13 x14 x15 y0 y1 y2 y3;have Y5:=x.o.size
    have Y6:=m_5 ks.length V;have Q6:=a6 (fun(w':World) (hb:Below w0 w0 w')=>And.intro (HA.o.kept hb).f16.1 (HX.o.kept hb).f4.1)
    go_region_held3 (fun w'=>(w'.cell? W=some (.slice a s.rules.length c)/\w'.cell? (P0 W 1)=some (aZ s.els.type)/\w'.cell? (P0 W 2)=some (.int .i64 s.els.text.1)/\w'.cell? (P0 W 3)=some (aZ s.els.text.2)/\w'.cell? (P0 W 4)=some (.int .i64 s.els.other.1)/\w'.cell? (P0 W 5)=some (aZ s.els.other.2)/\w'.cell? (P0 W 6)=some (.slice ea s.els.kids.length ec)/\w'.cell? (P0 W 7)=some (.int .i64 s.els.fill)/\w'.cell? (P0 W 8)=some (aZ s.els.fillT)/\w'.cell? (P0 W 9)=some (.int .i64 o0)/\w'.cell? (P0 W 10)=some (.int .i64 o1)/\w'.cell? (P0 W 11)=some (.int .i64 o2)/\w'.cell? (P0 W 12)=some (.int .i64 o3)/\w'.cell? (P0 W 13)=some (.int .i64 o4)/\w'.cell? (P0 W 14)=some (.int .i64 o5)/\w'.cell? (P0 W 15)=some (.int .i64 s.cap))/\(w'.cell? (P0 (W+1) 0)=some (.bool false)/\w'.cell? (P0 (W+1) 1)=some (.slice ap ps.length cp)/\w'.cell? (P0 (W+1) 2)=some (.slice at_ t.length ct)/\w'.cell? (P0 (W+1) 3)=some (.slice ak ks.length ck))) (refine Q6.o _ (by(with_reducible (repeat (first | exact E.o | exact u.o | exact a7 | refine aK ?_ | refine aQ ?_ ?_ _ | refine aV ?_ ?_ _)) <;> (first | exact a8 | exact E.o.size | exact u.o.size | (have:=E.o.size;simp [World.setCell];omega) | (have:=u.o.size;simp [World.setCell];omega) | (simp <;> omega) | omega))))
     (first
     | (refine bQ rfl 54 _ _ rfl d_U [.agg #[false,(ap,ps.length,cp),(at_,t.length,ct),(ak,ks.length,ck)]] ?_ _ (H4.o _ P1) ?_
        . go_simp
        rintro e w1 ⟨rfl,d⟩;refine⟨_,rfl, ?_⟩;have Q7:=a6 d.size;have u:=a6 (Below.and (w0:=w0) P1 d)
        first
         | (refine At.lay (N:= ?_) (cs:= [false,(),(),(),aZ [],OY,aZ [],OY,aZ [],(),OY,aZ [],()]) (T:=118) (At.kept ?_ d) ?_
            rotate_left
            . with_reducible (repeat (first | exact At.second _ _ _ _ | exact At.fresh _ _ _ | refine At.drew ?_ | refine At.alloc ?_ _))
            intro Q8)
         | skip
        first
         | (refine At.lay (N:= ?_) (cs:=(qX ks.length)) (T:=24) (At.kept ?_ d) ?_
            rotate_left
            . with_reducible (repeat (first | exact At.second _ _ _ _ | exact At.fresh _ _ _ | refine At.drew ?_ | refine At.alloc ?_ _))
            intro Q9)
         | skip
        clear d)
     | (refine bQ rfl 53 _ _ rfl e_n [.agg #[(a,s.rules.length,c),aZ s.els.type,s.els.text.1,aZ s.els.text.2,s.els.other.1,aZ s.els.other.2,(ea,s.els.kids.length,ec),s.els.fill,aZ s.els.fillT,o0,o1,o2,o3,o4,o5,s.cap],aZ ty] ?_ _ (J.o _ PK) ?_
        . go_simp
        rintro e w2 ⟨ra,rc,rfl,y,d⟩;refine⟨_,rfl, ?_⟩;have q0:=a6 d.size;have E:=a6 (Below.and (w0:=w0) PK d);have K:=a6 y
        first
         | (refine At.lay (N:= ?_) (cs:= [false,(),(),(),aZ [],OY,aZ [],OY,aZ [],(),OY,aZ [],()]) (T:=118) (At.kept ?_ d) ?_
            rotate_left
            . with_reducible (repeat (first | exact Q8.o | exact At.second _ _ _ _ | exact At.fresh _ _ _ | refine At.drew ?_ | refine At.alloc ?_ _))
            intro H0)
         | skip
        first
         | (refine At.lay (N:= ?_) (cs:=(qX ks.length)) (T:=24) (At.kept ?_ d) ?_
            rotate_left
            . with_reducible (repeat (first | exact Q9.o | exact At.second _ _ _ _ | exact At.fresh _ _ _ | refine At.drew ?_ | refine At.alloc ?_ _))
            intro h8)
         | skip
        first
         | (obtain⟨⟨r0,r1,r2,r3,r4,r5,r6,r7,r8,r9,r10,r11,r12⟩,rf,rl⟩:=H0.o.f13)
         | skip
        clear d y))
    all_goals
     go_wp2_with fail
     go_meet
     case rel=>
      have q7:=Q7.o;have q8:=q0.o
      simp at q7 q8
      refine⟨_, ?_,ra,rc,rfl, ?_, ?_, ?_, ?_, ?_, ?_, ?_⟩
      rotate_left
      . (repeat (first | with_reducible exact H0.o | with_reducible exact H0.o.s13 _ _ _ _ _ _ _ _ _ _ _ _ _ | with_reducible exact(H0.o.alloc _).s13 _ _ _ _ _ _ _ _ _ _ _ _ _ | with_reducible exact At.second _ _ _ _ | with_reducible exact At.fresh _ _ _ | (with_reducible refine At.fresh2 ?_;(simp [World.setCell];done)) | with_reducible refine At.drew ?_ | with_reducible refine At.alloc ?_ _ | (with_reducible refine At.n13 ?_ ?_ _ _ _ _ _ _ _ _ _ _ _ _ _;rotate_left;(omega))))
      . (repeat (first | with_reducible exact h8.o | with_reducible exact h8.o.s13 _ _ _ _ _ _ _ _ _ _ _ _ _ | with_reducible exact(h8.o.alloc _).s13 _ _ _ _ _ _ _ _ _ _ _ _ _ | with_reducible exact At.second _ _ _ _ | with_reducible exact At.fresh _ _ _ | (with_reducible refine At.fresh2 ?_;(simp [World.setCell];done)) | with_reducible refine At.drew ?_ | with_reducible refine At.alloc ?_ _ | (with_reducible refine At.n13 ?_ ?_ _ _ _ _ _ _ _ _ _ _ _ _ _;rotate_left;(omega))))
      . omega
      . omega
      . omega
      . (repeat (first | with_reducible refine o_e ?_ P6 _ _ _ _ _ _ _ _ _ _ _ _ _ | with_reducible refine A7 ?_ _))
        refine K.o.keep (a8) (fun _ _ _=>rfl) (fun b hb o=> ?_)
        try simp at hb
        constructor <;> omega
      (with_reducible (repeat (first | exact E.o | exact a7 | refine aK ?_ | refine aQ ?_ ?_ _ | refine aV ?_ ?_ _)) <;> (first | exact a8 | exact E.o.size | (have:=E.o.size;simp [World.setCell];omega) | (simp <;> omega) | omega))
   case rest=>
    obtain⟨M,M2,ra,rc,rfl,hE,hM,j6,Y7,Y3,y,hb⟩:=hcut;obtain⟨w5,rfl⟩:∃w5,w5=wc:=⟨_,rfl⟩;have q9:=a6 (x.o.trans (hb.mono x.o.size));have X0:=a6 (HA.o.kept hb);have j8:=a6 (HX.o.kept hb);have X1:=a6 (HZ.o.kept hb)
    have HE:=a6 hE;have HM:=a6 hM;have K:=a6 y
    have Y8:W.heap.size+1+1 < w0.heap.size:=zl;clear J H4 HA HX HZ hb hE hM y x0 x1 x2 x3 x4 x5 x6 x7 x8 x9 x10 x11 x12 x13 x14 x15 xl y0 y1 y2 y3 yl z0 z1 z2 zf zl;have j9:=j8.o
    obtain⟨⟨y0,y1,y2,y3⟩, -,yl⟩:=j9.f4;clear j9;go_wp2_with fail;clear y0 y1 y2 y3 yl;go_loopg [29] ks.length (fun g i wr=>∃k:Nat,k+g=ks.length/\i= .int .i64 k/\At wr M2 (pQ ((m9 R ks).take k) ++ qX (ks.length - k)) 24/\At wr M [false,(ap,ps.length,cp),(at_,t.length,ct),(ak,ks.length,ck),aZ R.type,R.text.1,aZ R.text.2,R.other.1,aZ R.other.2,(ra,R.kids.length,rc),R.fill,aZ R.fillT,(M2,ks.length,ks.length)] 118/\At wr (W+1) [false,(ap,ps.length,cp),(at_,t.length,ct),(ak,ks.length,ck)] 35/\At wr W [(a,s.rules.length,c),aZ s.els.type,s.els.text.1,aZ s.els.text.2,s.els.other.1,aZ s.els.other.2,(ea,s.els.kids.length,ec),s.els.fill,aZ s.els.fillT,o0,o1,o2,o3,o4,o5,s.cap] 30/\At wr (W.heap.size+1+1) [OY,OY,OY] 60/\RowQ wr (fun b=>b≠M/\b≠M2) 3 ra R.kids.length rc (fV R.kids)/\Below W W wr)
    case atStart=>exact⟨0,by omega,rfl,HM.o,HE.o,j8.o,X0.o,X1.o,K.o,q9.o⟩
    case round=>
     obtain⟨k,hg,rfl,hm,he,hx,ha,hz,hr,l⟩:=hrel
     by_cases o:k < ks.length
     . --<2
       have K0:(k:Int) < ks.length:=P2
       have K1:=Hk.o.keep l l.size;have H5:=eX.keep l l.size _ _ h7.o
       obtain⟨kb,ko,a1,c1,a2,c2,a3,c3,rfl,Y9,h9, -,g0,g1,g2,g3⟩:=l_Z K1 H5 k o;have J0:=j4.o _ (NY o);have J1:(m9 R ks).take (k+1)=(m9 R ks).take k ++ [eQ R ks[k]]:=by
        rw [O1 (by simpa using o)];simp
       generalize ks[k]=q at h9 J0 J1 g0 g1 g2 g3;have K2:=a6 J1;have G:=b7 wr (Obj.cells #[(b8 q),(a1,(dJ q).length,c1),(a2,(iJ q).length,c2),(a3,(aY q).length,c3)] 35);have K3:=a6 (fun(w1:World) (hb:Below wr wr w1)=>Z.o ra rc q _ w1 ((hr.keep hb.size (fun b _ o=>hb.block b o) (fun _ h _=>h)).row) (h9.keep hb hb.size) J0);have K4:=a6 (fun(w1:World) (hb:Below wr wr w1)=>hm.kept hb);have K5:=a6 (fun(w1:World) (hb:Below wr wr w1)=>he.kept hb);have Hx:=a6 hx;have Ha:=a6 ha;have Hz:=a6 hz;have Hr:=a6 hr;have L:=a6 l
       obtain⟨A,hA⟩:∃A,A=eQ R q:=⟨_,rfl⟩;rw [<- hA]at K3 K2;clear hA J1 hm he hx ha hz hr K1 H5 J0 h9 l;have Y4:=(K4.o wr (a7)).lt
       have y4:=(K5.o wr (a7)).lt;go_upto_region 7 with fail;obtain⟨w6,J2⟩:∃w6,w6=wr.alloc (Obj.cells #[(b8 q),(a1,(dJ q).length,c1),(a2,(iJ q).length,c2),(a3,(aY q).length,c3)] 35):=⟨_,rfl⟩;rw [<- J2]at G⊢;have K6:=a6 (show At w6 wr [(b8 q),(a1,(dJ q).length,c1),(a2,(iJ q).length,c2),(a3,(aY q).length,c3)] 35 by rw [J2];exact At.fresh _ _ _)
       have K7:=a6 (K5.o _ G);have X2:=a6 (K4.o _ G)
       have O:=a6 G;have y5:=G.size;have X3:=a6 (fun(w':World) (h1:At w' M [false,(ap,ps.length,cp),(at_,t.length,ct),(kb,ko,ks.length,ck),aZ R.type,R.text.1,aZ R.text.2,R.other.1,aZ R.other.2,(ra,R.kids.length,rc),R.fill,aZ R.fillT,(M2,ks.length,ks.length)] 118) (h2:At w' wr [(b8 q),(a1,(dJ q).length,c1),(a2,(iJ q).length,c2),(a3,(aY q).length,c3)] 35)=>And.intro h1.f13.1 h2.f4.1);clear J2 G;go_region_held3 (fun w'=>(w'.cell? M=some (.bool false)/\w'.cell? (P0 M 1)=some (.slice ap ps.length cp)/\w'.cell? (P0 M 2)=some (.slice at_ t.length ct)/\w'.cell? (P0 M 3)=some (.slice (some (kb,ko)) ks.length ck)/\w'.cell? (P0 M 4)=some (aZ R.type)/\w'.cell? (P0 M 5)=some (.int .i64 R.text.1)/\w'.cell? (P0 M 6)=some (aZ R.text.2)/\w'.cell? (P0 M 7)=some (.int .i64 R.other.1)/\w'.cell? (P0 M 8)=some (aZ R.other.2)/\w'.cell? (P0 M 9)=some (.slice ra R.kids.length rc)/\w'.cell? (P0 M 10)=some (.int .i64 R.fill)/\w'.cell? (P0 M 11)=some (aZ R.fillT)/\w'.cell? (P0 M 12)=some (.slice M2 ks.length ks.length))/\(w'.cell? wr=some (.bool (b8 q))/\w'.cell? (P0 wr 1)=some (.slice a1 (dJ q).length c1)/\w'.cell? (P0 wr 2)=some (.slice a2 (iJ q).length c2)/\w'.cell? (P0 wr 3)=some (.slice a3 (aY q).length c3))) (refine X3.o _ ?_ ?_ <;> (repeat (first | with_reducible exact K8.o | with_reducible exact X4.o | with_reducible exact K7.o | with_reducible exact K6.o | with_reducible exact At.second _ _ _ _ | with_reducible exact At.fresh _ _ _ | with_reducible refine At.drew ?_ | with_reducible refine At.alloc ?_ _ | (with_reducible refine At.set_ne ?_ ?_ _;rotate_left;omega))))
        (first | (refine bQ rfl 71 _ _ rfl P5 [.agg #[aZ R.type,R.text.1,aZ R.text.2,R.other.1,aZ R.other.2,(ra,R.kids.length,rc),R.fill,aZ R.fillT], .agg #[(b8 q),(a1,(dJ q).length,c1),(a2,(iJ q).length,c2),(a3,(aY q).length,c3)]] ?_ _ (K3.o _ PZ) ?_
                  . go_simp
                  rintro e w7 ⟨rfl,d⟩;refine⟨_,rfl, ?_⟩;have d:=Below.and (w0:=w6) ((a7).drew) d;have H:=a6 (O.o.trans (d.mono O.o.size));have K8:=a6 (K7.o.kept d);have X4:=a6 (K6.o.kept d)
                  have J3:=X2.o.kept d;have X5:=a6 J3;obtain⟨m0,m1,mf⟩:=m_6 (k:=k) P8 P2 J3;clear d J3))
       go_wp2_with fail
       go_roundg (ks.length - (k+1))
       case measure=>omega
       case rel=>
        have K9:W.heap.size <= M2:=P2
        refine⟨k+1,by omega,by go_num, ?_,(K8.o.set_ne j6 _).set_ne j6 _,((Hx.o.kept H.o).set_ne P2 _).set_ne P2 _,((Ha.o.kept H.o).set_ne P2 _).set_ne P2 _,((Hz.o.kept H.o).set_ne P2 _).set_ne P2 _,
         b9 (b9 (Hr.o.keep H.o.size (fun b _ o=>H.o.block b o) (fun _ h _=>h)) P6) P6,(((L.o.trans (H.o.mono L.o.size)).setCell (p:=(M2,k * 2)) K9 _).setCell (p:=(M2,k * 2+1)) K9 _)⟩
        rw [K2.o,show ks.length - (k+1)=ks.length - k - 1 by omega];exact o_f A P8 P2 X5.o
     --<3
     obtain rfl:k=ks.length:=P2
     rw [show (m9 R ks).take ks.length=m9 R ks by rw [List.take_of_length_le P6],Nat.sub_self,show pQ (m9 R ks) ++ qX 0=pQ (m9 R ks)by simp [qX]]at hm;have y6:=hm.lt;have P:=fun(w1:World) (hb:Below wr wr w1)=>(show Below W W w1 from l.trans (hb.mono l.size))
     have J4:=fun(w1:World) (hb:Below wr wr w1)=>q_p false (ap,ps.length,cp) (at_,t.length,ct) ak ck ks css (aZ R.type) R.text.1 (aZ R.text.2) R.other.1 (aZ R.other.2) (ra,R.kids.length,rc) R.fill (aZ R.fillT) M2 ks.length (m9 R ks) w1 V (Hk.o.keep (P w1 hb) (P w1 hb).size) (eX.keep (P w1 hb) (P w1 hb).size _ _ h7.o) (by
      have h:=o_g (by simpa using V) (hm.kept hb)
      simpa using h) (by simpa using V)
     rw [show (m9 R ks).length=ks.length by simp, <- o_b, <- o_c, <- j_N, <- f_T R, <- m_0 R, <- AY R]at J4;have k0:=a6 (J4 _ (a7));have He:=a6 he;have Hx:=a6 hx;have Ha:=a6 ha;have Hz:=a6 hz;have L:=a6 l
     obtain⟨⟨e0,e1,e2,e3,e4,e5,e6,e7,e8,e9,e10,e11,e12⟩, -,el⟩:=he.f13;obtain⟨⟨x0,x1,x2,x3,x4,x5,x6,x7,x8,x9,x10,x11,x12,x13,x14,x15⟩, -,xl⟩:=ha.f16;clear hm he hx ha hz hr l J4 P;go_wp2_with fail;refine k0.o.mono ?_;rintro e w7 ⟨v1,v2,v3,v4,v5,v6,rfl,⟨l1,f1,q1,rfl,t1,k1⟩,⟨l2,f2,q2,rfl,t2,k2⟩,⟨l3,f3,q3,rfl,t3,k3⟩,⟨l4,f4,q4,rfl,t4,k4⟩,⟨l5,f5,q5,rfl,t5,k5⟩,⟨l6,f6,q6,rfl,t6,k6⟩,d⟩;obtain⟨w9,H1⟩:∃w9,w9=w7.alloc (Obj.cells #[.nilFunc, .func (.func l1) f1 q1, .func (.func l2) f2 q2, .func (.func l3) f3 q3, .func (.func l4) f4 q4, .func (.func l5) f5 q5, .func (.func l6) f6 q6] 121):=⟨_,rfl⟩;have hN:At w9 w7 [.nilFunc, .func (.func l1) f1 q1, .func (.func l2) f2 q2, .func (.func l3) f3 q3, .func (.func l4) f4 q4, .func (.func l5) f5 q5, .func (.func l6) f6 q6] 121:=by rw [H1];exact At.fresh _ _ _
     have H2:Below w7 w7 w9:=t_D
     have C:=d.trans (H2.mono d.size);have X6:=a6 (fun(c:Nat) (w':World) (h1:1 <= c) (h6:c <= 6) (hb:Below w9 w9 w')=>show ∃f first caps,w'.cell? (w7,c)=some (.func (.func f) first caps)/\(∀args w,(callFunc f args).run Tryz.prog w= .ok (.enter f args) w)/\Calls Tryz.prog f (first ++ caps) w' (b_P w' (gV R ks c) (j7 R ks c))from by
      have I:=H2.trans (hb.mono H2.size);obtain⟨⟨z0,z1,z2,z3,z4,z5,z6⟩, -, -⟩:=(hN.kept hb).f7;rcases(show c=1∨c=2∨c=3∨c=4∨c=5∨c=6 by omega)with rfl | rfl | rfl | rfl | rfl | rfl
      . exact⟨l1,f1,q1,z1,t1,k1 w' I⟩
      . exact⟨l2,f2,q2,z2,t2,k2 w' I⟩
      . exact⟨l3,f3,q3,z3,t3,k3 w' I⟩
      . exact⟨l4,f4,q4,z4,t4,k4 w' I⟩
      . exact⟨l5,f5,q5,z5,t5,k5 w' I⟩
      exact⟨l6,f6,q6,z6,t6,k6 w' I⟩)
     have k7:=a6 (L.o.trans (C.mono L.o.size));have X7:=a6 (Hz.o.kept C);have k8:=a6 H1;have y7:=hN.lt;have k9:=Ha.o.kept C;clear d k0 e0 e1 e2 e3 e4 e5 e6 e7 e8 e9 e10 e11 e12 el x0 x1 x2 x3 x4 x5 x6 x7 x8 x9 x10 x11 x12 x13 x14 x15 xl H1 hN H2 C k1 k2 k3 k4 k5 k6 t1 t2 t3 t4 t5 t6 He Hx Ha Hz;have X8:=fun(W:World) (a:Addr) (fn:Fn) (first cap:Array Value) (m:Mode)=>run_store Tryz.prog W a (.func fn first cap) m rfl
     have X9:=fun(W:World) (a:Addr) (m:Mode)=>run_store Tryz.prog W a .nilFunc m rfl
     go_upto_region 10 with fail;clear X8 X9;rw [<- k8.o];clear k8;obtain⟨⟨x0,x1,x2,x3,x4,x5,x6,x7,x8,x9,x10,x11,x12,x13,x14,x15⟩, -,xl⟩:=k9.f16;clear k9;go_wp2_with fail;clear x0 x1 x2 x3 x4 x5 x6 x7 x8 x9 x10 x11 x12 x13 x14 x15 xl;go_loopg [47] 6 (fun g i wr2=>∃k:Nat,k+g=6/\i= .int .i64 k/\F=wZ R ks ([o0,o1,o2,o3,o4,o5].drop k)/\Below w9 w9 wr2)
     case atStart=>exact⟨0,by omega,rfl,j5.o,a7⟩
     case round=>
      obtain⟨k,hg,rfl,hF,l⟩:=hrel;have B:=a6 l;have J5:=a6 (k7.o.trans (l.mono k7.o.size));have Q0:=a6 (X7.o.kept l);obtain⟨⟨z0,z1,z2⟩,zf,zl⟩:=Q0.o.f3;clear l;by_cases o:k < 6
      . have K0:(k:Int) < 6:=P2
        have Q1:=r_S o0 o1 o2 o3 o4 o5 k o;have hdr: [o0,o1,o2,o3,o4,o5].drop k= [o0,o1,o2,o3,o4,o5].getD k 0:: [o0,o1,o2,o3,o4,o5].drop (k+1):=by
         rw [NX (by simpa using o)]
         simp [List.getD,NV (show k < [o0,o1,o2,o3,o4,o5].length by simpa using o)]
        rw [hdr]at hF;generalize [o0,o1,o2,o3,o4,o5].getD k 0=cl at Q1 hF;have H3:=a6 hF;clear hdr hF;go_upto_region 13 with fail
        clear Q1;by_cases h1:cl < 1
        . have Q:=a6 (H3.o.trans (b_e (fun h=>by have:=NK h;omega)))
          have Y0:decide (cl < 1)=true:=UV
          clear h1;go_wp2_with fail
          go_roundg (6 - (k+1))
          case measure=>omega
          case rel=>exact⟨k+1,by omega,by go_num,Q.o,B.o⟩
        have Y0:decide (cl < 1)=false:=UV
        by_cases h6:6 < cl
        . have Q:=a6 (H3.o.trans (b_e (fun h=>by have:=NK h;omega)))
          have Y1:decide (6 < cl)=true:=by simpa using h6
          clear h1;go_wp2_with fail
          go_roundg (6 - (k+1))
          case measure=>omega
          case rel=>exact⟨k+1,by omega,by go_num,Q.o,B.o⟩
        obtain⟨cn,rfl⟩:∃cn:Nat,cl=cn:=⟨cl.toNat,by omega⟩;have Y1:decide (6 < (cn:Int))=false:=by simpa using h6
        have y8:(cn:Int) < 7:=P2
        obtain⟨f,first,caps,J6,he,hC⟩:=X6.o cn wr P2 P2 B.o;have HC:=a6 hC;have S:=a6 (fun(j:Int) (h:gV R ks cn=j) (h0:0 <= j)=>H3.o.trans (m_3 (r:=R) (ks:=ks) h h0));have U:=a6 (fun(h:¬0 <= gV R ks cn)=>H3.o.trans (b_e h));generalize gV R ks cn=z at HC S U;generalize j7 R ks cn=m at HC S;clear hC h1 h6;go_wp2_with fail;refine HC.o.mono ?_;rintro e w10 ⟨mk,rfl,Q2,d⟩;have Q3:=a6 (J5.o.trans (d.mono J5.o.size))
        have Q4:=a6 (B.o.trans (d.mono B.o.size));have Q5:=a6 (Q0.o.kept d);have Y2:=a6 Q2;clear d Q2 z0 z1 z2 zf zl HC he J6;obtain⟨⟨z0,z1,z2⟩,zf,zl⟩:=Q5.o.f3
        by_cases hz:0 <= z
        . have J7:=a6 (S.o z rfl hz)
          have HM:=a6 (Y2.o hz);go_wp2_with fail;refine bodyPost_ret (v:= .agg #[cn,z,mk]) W4 rfl ?_;rw [J7.o, <- HM.o];exact⟨rfl,d_T Q3.o h3 _ _ _⟩
        have y9:decide (0 <= z)=false:=SQ
        have Q:=a6 (U.o P2);clear hz;go_wp2_with fail
        go_roundg (6 - (k+1))
        case measure=>omega
        case rel=>exact⟨k+1,by omega,by go_num,Q.o,Q4.o⟩
      obtain rfl:k=6:=P2
      have J7:=a6 (show F=(0,0,0)from hF);clear hF;go_wp2_with fail;refine bodyPost_ret (v:= .agg #[OY,OY,OY]) W4 rfl ?_;rw [J7.o];exact⟨rfl,d_T J5.o h3 _ _ _⟩
end Go.Proofs.YtmadpclcmjahoaaGreatDoor
