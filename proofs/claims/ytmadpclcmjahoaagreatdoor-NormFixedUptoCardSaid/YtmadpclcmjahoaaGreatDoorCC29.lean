/- Parts of the proof: CC29. -/
import Derived.Test.YtmadpclcmjahoaaGreatDoorCC28
import Derived.ScopeJumps
import Derived.WalkMore
set_option linter.unusedVariables false
set_option linter.unusedSimpArgs false
set_option maxHeartbeats 8000000
set_option maxRecDepth 100000
namespace Go.Proofs.YtmadpclcmjahoaaGreatDoor
open Go.RowKit Go.Redl
theorem p_p {s:b5} {k:aX} {p:List Int} (hs:eJ s=0) (hf:(eV s k).1≠0):lK (nX (cJ s (dZ k)) (aY k) p (eV s k)) <= 40:=by
 have hF:=B3 (AZ hs _ (IQ s (dZ k))).1;rcases oV s k with h | ⟨c,j,hl,h1,h6,hj,he,d,h4,g⟩
 . rw [h]at hf;exact absurd rfl hf
 rw [he];generalize cJ s (dZ k)=r at hF hj⊢;obtain rfl | rfl | rfl | rfl | rfl | rfl:c=1∨c=2∨c=3∨c=4∨c=5∨c=6:=P2
 . rw [zQ (.inl rfl)];simp [lK]
 . rw [a_9 rfl,MJ]
   . omega
   intro o ho;rcases OQ ho with ho | ho
   . obtain ⟨i, -,rfl⟩:=OV ho
     simp
   rw [O9 ho];simp
 . have a:=d P2
   have e:=(c_1 a hj).1;have m:=a_s (b_Z (b_Y hF _) e);have n:=c_d (eQ r (aY k)[j]).2;rw [GQ rfl];simp only [O0];rw [kid_at a];rw [lK,MJ (l:=List.map _ _)]
   . rw [if_pos rfl]
     show (gX _).wt+0 <= 40
     omega
   intro o ho;obtain⟨i, -,rfl⟩:=OV ho
   simp
 . rw [K8 rfl];simp [lK]
 . rw [zQ (.inr rfl)];simp [lK]
 rw [a_a rfl];have hx:(if r.fill=1 then aX.mk true [] [] [] else gX r.fillT).wt <= 40:=by
  split
  . simp [aX.wt,iQ,fY]
  rename_i f
  have b:gV r (aY k) 6=j:=hj;rw [AY]at b;split at b
  . rename_i h
    have:=a_s (c_0 hF h.2 f).2;have:=c_d r.fillT
    omega
  omega
 generalize (if r.fill=1 then aX.mk true [] [] [] else gX r.fillT)=x at hx⊢;simp only [lK,if_true];omega
theorem r_1 (l:List CZ) (i:Nat):b_C l i <= l.length+1:=by
 unfold b_C;have h:=(List.takeWhile_prefix (l:=l.drop (i+1)) (fun a=>decide (a=l.getD i (0, [])))).length_le
 rw [List.length_drop]at h;omega
theorem m_Z {s:b5} {k:aX} {p:List Int} (hs:eJ s=0) (hf:(eV s k).1≠0):(nX (cJ s (dZ k)) (aY k) p (eV s k)).length <= k.wt+2:=by
 have a :=L0 k;refine m_O _ _ _ _ k.wt P2 ?_;have hl:∀ (r:bK) (ks:List aX) (cs:List Int),(wZ r ks cs).2.2 <= (ks.length:Int)+1:=by
  intro r ks cs;induction cs with
  | nil=>unfold wZ;show (0:Int) <= _;omega
  | cons c cs ih=>
    unfold wZ;split
    . show ((j7 r ks c:Nat):Int) <= _
      unfold j7;split
      . have:=r_1 (m9 r ks) (gV r ks c).toNat
        rw [show (m9 r ks).length=ks.length by simp [m9]]at this
        omega
      omega
    exact ih
 have b:(aY k).length <= k.wt:=by have:=i7 (aY k);omega
 unfold eV;split
 . show (0:Int) <= _;omega
 have:=hl (cJ s (dZ k)) (aY k) s.order
 omega
structure N2 (s:b5) (picks:List Int) (k:Nat) (T A:MT) (m:Nat) (ops:List fZ) (L:List (List Int)):Prop where
 run:wX s picks k T A m ops
 left:wV L T
 ok:T.Ok
 e:dQ T.bare=0
 leaf:b8 T.bare=false
 wt:T.bare.wt+lK ops <= 399000
theorem c_P {s:b5} {picks:List Int} {k m:Nat} {T A:MT} {ops:List fZ} (h:wX s picks k T A m ops):k <= m:=by
 induction h with
 | done h=>exact a8
 | step hL hp r ih=>omega
theorem c_j {s:b5} {picks:List Int} {k m:Nat} {T A:MT} {ops:List fZ} (h:wX s picks k T A m ops):∀ {A':MT} {m':Nat} {ops':List fZ},wX s picks k T A' m' ops' ->A=A'/\m=m'/\ops=ops':=by
 induction h with
 | done h=>
   intro A' m' ops' h';cases h' with
   | done _=>exact⟨rfl,rfl,rfl⟩
   | step hL hp r=>
     have:=(yX hL (List.mem_of_getElem? hp)).1;rw [h]at this;cases this
 | step hL hp r ih=>
   intro A' m' ops' h';cases h' with
   | done h=>
     have:=(yX hL (List.mem_of_getElem? hp)).1;rw [h]at this;cases this
   | step a b r'=>
     have e:=J2 hL a;subst e;have e:=Option.some.inj (hp.symm.trans b)
     subst e;obtain⟨rfl,rfl,rfl⟩:=ih r';exact⟨rfl,rfl,rfl⟩
theorem N2.stop {s:b5} {picks:List Int} {k m:Nat} {T A:MT} {ops:List fZ} {L:List (List Int)} (h:N2 s picks k T A m ops L) (hr:m5 L= []):A=T/\m=k/\ops= []:=by
 cases h.run with
 | done _=>exact⟨rfl,rfl,rfl⟩
 | step hL hp r=>
   have:=J2 hL h.left;subst this;rw [hr]at hp;simp at hp
structure s_G (s:b5) (picks:List Int) (k:Nat) (T A:MT) (m:Nat) (ops:List fZ) (L:List (List Int)) (p:List Int) (kk:aX) (X:aX) (R:List (List Int)) (l ops':List fZ) (T':MT):Prop where
 pick:(m5 L)[a_t picks k (m5 L).length]? =some p
 at_:l9 T.bare p=some kk
 leaf:b8 kk=false
 len:p.length <= T.bare.wt
 ops:ops=l ++ ops'
 how:(eV s kk).1=0/\l= []/\X=T.bare/\R=L.filter (fun q=> !decide (p=q))∨
  (eV s kk).1≠0/\l=nX (cJ s (dZ kk)) (aY kk) p (eV s kk)/\oZ T.bare (l.map fZ.full)=some X/\R=mY T.bare L (l.map fZ.full)/\(∀o∈l,m_Q o/\o.dest.length <= 400000)/\T.bare.wt+lK l <= 400000/\l.length <= 400002
 next:N2 s picks (k+1) T' A m ops' R
 bare:T'.bare=X
theorem N2.go {s:b5} {picks:List Int} {k m:Nat} {T A:MT} {ops:List fZ} {L:List (List Int)} (hs:eJ s=0) (h:N2 s picks k T A m ops L) (hr:m5 L≠ []):
 ∃p kk X R l ops' T',s_G s picks k T A m ops L p kk X R l ops' T':=by
 obtain⟨f,b,hok,hE,c,e⟩:=h
 cases f with
 | done hd=>
   have:=g_h b hd;subst this;exact absurd (show m5 []= []from rfl) hr
 | step hL hp r=>
   rename_i ops1 L1 p
   have i:=J2 hL b;subst i;have d:=yX hL (List.mem_of_getElem? hp)
   obtain⟨kk,ha,hm⟩:=(MT.mk_at p T).1 d.1;have a:l9 T.bare p=some kk.bare:=QK
   have j:=MT.Ok.at_ p hok ha;have g:b8 kk.bare=false:=by
    have h2:=MT.Ok.elem p hok d.1;unfold dX at h2;rw [a]at h2;simpa using h2
   have n:=a_q p T.bare kk.bare a;have q:=zJ p T.bare kk.bare a
   by_cases hf:(eV s kk.bare).1=0
   . have hb:(T.look s p).bare=T.bare:=by
      rw [FY ha,MT.bare_put p T kk _ ha];unfold MT.look1;rw [if_pos hf,MT.bare_unmark,K5 p T.bare kk.bare a]
     refine⟨p,kk.bare,T.bare,_, [],ops1,T.look s p,hp,a,g,by omega, ?_, .inl ⟨hf,rfl,rfl,rfl⟩,⟨r,f_4 hL ha hf,c_h hs p hE hok,qZ hs p hE,by rw [hb];exact c,by rw [hb];rw [MK ha hf]at e;exact e⟩,hb⟩;rw [MK ha hf]
   obtain⟨h1,h2,h3, -⟩:=i_T hs hE c P2 ha hf;have h5:=m_Z (p:=p) hs hf;rw [<- c_i ha hf]at h5;rw [c_e]at e;have h6:=l_m _ _ _ (fun o ho=>(h2 o ho).1) P2 h1
   refine⟨p,kk.bare,(T.look s p).bare,_,T.opsAt s p,ops1,T.look s p,hp,a,g,by omega,rfl, .inr ⟨hf,c_i ha hf,h1,rfl,fun o ho=>⟨(h2 o ho).1, ?_⟩,by omega,by omega⟩,⟨r,m_X hs hE c P2 hL hok ha hm hf,c_h hs p hE hok,qZ hs p hE, ?_,by omega⟩,rfl⟩
   . have:=(h2 o ho).2;omega
   rw [g_j ha];exact c
theorem p_q {s:b5} {picks:List Int} (hs:eJ s=0):∀ (c:Nat) {k m:Nat} {T A:MT} {ops:List fZ} {L:List (List Int)},m <= k+c ->N2 s picks k T A m ops L ->ops.length <= 400002 * c:=by
 intro c;induction c with
 | zero=>
   intro k m T A ops L hm h;by_cases hr:m5 L= []
   . rw [(h.stop hr).2.2];simp
   obtain⟨p,kk,X,R,l,ops',T',hl⟩:=h.go hs hr;have:=c_P hl.next.run
   omega
 | succ c ih=>
   intro k m T A ops L hm h;by_cases hr:m5 L= []
   . rw [(h.stop hr).2.2];simp
   obtain⟨p,kk,X,R,l,ops',T',hl⟩:=h.go hs hr;have h2:=ih P2 hl.next;have h3:l.length <= 400002:=by
    rcases hl.how with⟨-,e, -⟩ | ⟨-, -, -, -, -, -,e⟩
    . rw [e];simp
    exact e
   rw [hl.ops,NZ];omega
theorem b_q {s:b5} {n:aX} (hE:dQ n=0) (hl:b8 n=false) {L:List (List Int)} {picks:List Int} {A:MT} {m:Nat} {ops:List fZ} (h:wX s picks 0 (MT.on L n) A m ops) (hw:n.wt+lK ops <= 399000):
 N2 s picks 0 (MT.on L n) A m ops (oY (L.filter (dX n))):=
 ⟨h,h_i L n,i_S L n,by rw [mZ];exact hE,by rw [mZ];exact hl,by rw [mZ];exact hw⟩
def a_w (s:b5) (n:aX) (L:List (List Int)) (picks:List Int):Prop:= ∃ (A:MT) (m:Nat) (ops:List fZ),wX s picks 0 (MT.on L n) A m ops/\n.wt+lK ops <= 399000/\ops.length <= 4000000000/\m <= 1000000000
theorem r_2 {s:b5} {picks:List Int} {k m:Nat} {T A:MT} {ops:List fZ} (hs:eJ s=0) (h:wX s picks k T A m ops):lK ops <= 40 * (m - k):=by
 induction h with
 | done h=>simp [lK]
 | step hL hp r ih=>
   rename_i k m T A ops L p
   have a:=c_P r;rw [c_e];have h1:lK (T.opsAt s p) <= 40:=by
    unfold MT.opsAt;cases ha:T.at_ p with
    | none=>simp [lK]
    | some kk=>
      simp only;by_cases hf:(eV s kk.bare).1=0
      . rw [if_pos hf];simp [lK]
      rw [if_neg hf];exact p_p hs hf
   omega
theorem L3 {s:b5} {n:aX} (hs:eJ s=0) (hE:dQ n=0) (hl:b8 n=false) (L:List (List Int)) (picks:List Int) (hw:n.wt+40 * muT s (MT.on L n) <= 399000):
 ∃ (A:MT) (m:Nat) (ops:List fZ),wX s picks 0 (MT.on L n) A m ops/\m <= muT s (MT.on L n)/\n.wt+lK ops <= 399000/\ops.length <= 4000000000/\m <= 1000000000:=by
 obtain⟨A,m,ops,hr, -,h2⟩:=a_u hs picks (muT s (MT.on L n)) 0 (MT.on L n) (a8) u_c (i_S L n);have h3:=r_2 hs hr;have h4:n.wt+lK ops <= 399000:=P2
 have h5:=p_q hs m (show m <= 0+m by omega) (b_q hE hl hr h4);exact⟨A,m,ops,hr,by omega,h4,by omega,by omega⟩
theorem c_k (x y z:Int) (w:World):(Instr.field 60 (.agg #[x,y,z]) 0).run Tryz.prog w= .ok (.int .i64 x) w:=P3
theorem r_3 (p x:List Int) (U:Nat) (pa xa:Option Addr) (pc xc:Nat) (W:World) (hU:At W U [(pa,p.length,pc)] 36) (hp:RowA W W 1 pa p.length pc (p.map (Value.int .i64))) (hx:RowA W W 1 xa x.length xc (x.map (Value.int .i64))):
 Calls Tryz.prog 155 #[(xa,x.length,xc), .pointer U] W fun e w'=>e= .returned (decide (p=x))/\Below W W w':=by
 have HC:=a6 (d_B p x pa xa pc xc W W hp hx);have c0:=hU.cell 0 rfl;have cl:=hU.lt
 clear hU hp hx;generalize decide (p=x)=z at HC⊢
 go_enter Tryz.func155,Tryz.ntmps155
 go_wp2_with fail;refine HC.o.mono ?_;rintro e w1 ⟨rfl,hdr⟩;have Hb:=a6 (hdr.below (w':=w1) W)
 clear hdr HC c0 cl;go_wp2_with fail;go_ret;exact⟨bJ P6,Hb.o⟩
def s_H (s:b5) (T k X:aX) (L R:List (List Int)) (l:List fZ) (p:List Int):Prop:=
 (eV s k).1=0/\l= []/\X=T/\R=L.filter (fun q=> !decide (p=q))∨
   (eV s k).1≠0/\l=nX (cJ s (dZ k)) (aY k) p (eV s k)/\oZ T (l.map fZ.full)=some X/\R=mY T L (l.map fZ.full)/\(∀o∈l,m_Q o/\o.dest.length <= 400000)/\T.wt+lK l <= 400000/\l.length <= 400002
theorem s_b {sn en:Nat} {Y1 Y3 Y5 Y7:ByteArray} {Y2 Y4 Y6 Y8:Int} (s:b5) (T X k:aX) (R:List (List Int)) (l:List fZ) (p:List Int) (N B:Nat) (a ea:Option Addr) (c ec:Nat) (o0 o1 o2 o3 o4 o5:Int) (t0:Bool) (t1 t2 t3 la ga:Option Addr) (u1 u2 u3 r1 r2 r3 lc gc:Nat) (xs:List PX) (lg:List fZ) (pa:Option Addr) (pc:Nat) (W:World)
 (hs:s.wt <= 1048576) (H6:SchemaV W B s (.agg #[(a,sn,c),Y1,Y2,Y3,Y4,Y5,(ea,en,ec),Y6,Y7,o0,o1,o2,o3,o4,o5,Y8])) (j5:B <= N) (hA:At W N [(a,sn,c),Y1,Y2,Y3,Y4,Y5,(ea,en,ec),Y6,Y7,o0,o1,o2,o3,o4,o5,Y8,t0,(t1,u1,r1),(t2,u2,r2),(t3,u3,r3),(la,xs.length,lc),(ga,lg.length,gc)] 128) (L:sY W B N [t0,(t1,u1,r1),(t2,u2,r2),(t3,u3,r3)] (la,xs.length,lc) (ga,lg.length,gc) T xs lg)
 (H7:pK (iV xs)/\∀q∈iV xs,dX T q=true) (hp:RowQ W (OkB B N (la,xs.length,lc) (ga,lg.length,gc)) 1 pa p.length pc (p.map (Value.int .i64))) (j6:p.length <= 500000) (u:l9 T p=some k) (H8:b8 k=false) (K6:T.wt <= 400000)
 (how:s_H s T k X (iV xs) R l p) (hlen:lg.length+l.length <= 90000000000):
 Calls Tryz.prog 77 #[.pointer N,(pa,p.length,pc)] W (s_F W B N s [(a,sn,c),Y1,Y2,Y3,Y4,Y5,(ea,en,ec),Y6,Y7,o0,o1,o2,o3,o4,o5,Y8] (la,xs.length,lc) (ga,lg.length,gc) X R (lg ++ l)):=by
 have j7:=hA.lt;have H9:=zJ p T k u;obtain⟨w0,v⟩:∃w0,w0=W.alloc (Obj.cells #[(pa,p.length,pc)] 36):=⟨_,rfl⟩;have d:Below W W w0:=by rw [v];exact b7 _ _
 have h6:At w0 W [(pa,p.length,pc)] 36:=by rw [v];exact At.fresh _ _ _
 have O:=a6 (hA.kept d);have Q:=a6 h6;have h7:∀w',Below w0 w0 w' ->bY w' w' T (.agg #[t0,(t1,u1,r1),(t2,u2,r2),(t3,u3,r3)]):=fun w' hb=>⟨_,rfl,dY.keep (d.trans (hb.mono d.size)) (d.trans (hb.mono d.size)).size _ _ (NodeQ.node _ _ L.tree)⟩
 have HG:=a6 (fun(w':World) (hb:Below w0 w0 w')=>(show Calls Tryz.prog 13 #[.agg #[t0,(t1,u1,r1),(t2,u2,r2),(t3,u3,r3)],(pa,p.length,pc)] w' (s_e w' (some k))by
  have h:=f_G T p _ pa pc w' P2 (h7 w' hb) (hp.row.keep (d.trans (hb.mono d.size)) (d.trans (hb.mono d.size)).size);rw [u]at h;exact h))
 have h8:=a6 (fun(w':World) (hb:Below w0 w0 w')=>And.intro (O.o.kept hb) ((Q.o.kept hb).cell 0 rfl));have z:=fun(w':World) (h:At w' N [(a,sn,c),Y1,Y2,Y3,Y4,Y5,(ea,en,ec),Y6,Y7,o0,o1,o2,o3,o4,o5,Y8,t0,(t1,u1,r1),(t2,u2,r2),(t3,u3,r3),(la,xs.length,lc),(ga,lg.length,gc)] 128)=>At.part (P:=Tryz.prog) h 0 [(a,sn,c),Y1,Y2,Y3,Y4,Y5,(ea,en,ec),Y6,Y7,o0,o1,o2,o3,o4,o5,Y8] rfl Tryz.underlying30 rfl P3
 simp [go_sem]at z
 have S:=fun(w':World) (h:At w' N [(a,sn,c),Y1,Y2,Y3,Y4,Y5,(ea,en,ec),Y6,Y7,o0,o1,o2,o3,o4,o5,Y8,t0,(t1,u1,r1),(t2,u2,r2),(t3,u3,r3),(la,xs.length,lc),(ga,lg.length,gc)] 128)=>At.part (P:=Tryz.prog) h 16 [t0,(t1,u1,r1),(t2,u2,r2),(t3,u3,r3)] rfl Tryz.underlying35 rfl P3
 simp [go_sem]at S
 have h9:=a6 H6;have J0:=a6 L;have U:=a6 H7;have Hp:=a6 hp;have J1:=a6 how
 have J2:=a6 d;have J3:=a6 v
 have j8:=a6 u;have j9:=a6 H8
 clear v d h6 h7 H6 L H7 hp how hA u H8;go_enter Tryz.func77,Tryz.ntmps77;go_upto_region 1 with fail;rw [<- J3.o];clear J3;go_cut [5,6] (fun x e wx=>∃ (M:Nat) (x0:Bool) (x1 x2 x3:Option Addr) (y1 y2 y3 z1 z2 z3:Nat),x= .pointer M/\e= .int .i64 0/\Hid (At wx M [x0,(x1,y1,z1),(x2,y2,z2),(x3,y3,z3)] 35)/\Hid (NodeQ wx (fun b=>w0.heap.size <= b/\b≠M) k [x0,(x1,y1,z1),(x2,y2,z2),(x3,y3,z3)])/\Hid (Below w0 w0 wx))
 case first=>
  go_region_held3 (fun w'=>At w' N [(a,sn,c),Y1,Y2,Y3,Y4,Y5,(ea,en,ec),Y6,Y7,o0,o1,o2,o3,o4,o5,Y8,t0,(t1,u1,r1),(t2,u2,r2),(t3,u3,r3),(la,xs.length,lc),(ga,lg.length,gc)] 128/\w'.cell? W=some (.slice pa p.length pc)) (refine h8.o _ RZ)
   (first
   | (refine bQ rfl 13 _ _ rfl P5 [.agg #[t0,(t1,u1,r1),(t2,u2,r2),(t3,u3,r3)],(pa,p.length,pc)] ?_ _ (HG.o _ P1) ?_
      . go_simp
      rintro e vb ⟨cs,rfl,V,f⟩;obtain⟨x0,x1,y1,z1,x2,y2,z2,x3,y3,z3,rfl⟩:=V.form;refine⟨_,rfl, ?_⟩;have m:=a6 (b6 (w0:=w0) P1 f);have K0:=a6 f.size;have K1:=a6 V
      first
       | (refine At.lay (N:= ?_) (cs:= [false,(),(),()]) (T:=35) (At.kept ?_ f) ?_
          rotate_left
          . with_reducible (repeat (first | exact At.second _ _ _ _ | exact At.fresh _ _ _ | refine At.drew ?_ | refine At.alloc ?_ _))
          intro A)
       | skip
      first
       | (obtain⟨⟨r0,r1',r2',r3'⟩,rf,rl⟩:=A.o.f4)
       | skip
      clear f V))
  all_goals
   clear S z;go_wp2_with fail
   go_meet
   case rel=>
    have K2:=K0.o
    simp at K2
    refine⟨_,x0,x1,x2,x3,y1,y2,y3,z1,z2,z3,rfl,rfl,a6 ?_,a6 ?_,a6 ?_⟩
    . (repeat (first | with_reducible exact A.o | with_reducible exact A.o.s4 _ _ _ _ | with_reducible exact(A.o.alloc _).s4 _ _ _ _ | with_reducible exact At.second _ _ _ _ | with_reducible exact At.fresh _ _ _ | (with_reducible refine At.fresh2 ?_;(simp [World.setCell];done)) | with_reducible refine At.drew ?_ | with_reducible refine At.alloc ?_ _ | (with_reducible refine At.n4 ?_ ?_ _ _ _ _;rotate_left;(omega))))
    . (repeat (first | with_reducible refine lX ?_ P6 _ _ _ _ | with_reducible refine gY ?_ (b7 _ _)))
      refine NodeQ.keep (a8) (fun _ _ _=>rfl) (fun b hb C=> ?_) _ _ K1.o
      try simp at hb
      refine⟨by omega,by omega⟩
    (with_reducible (repeat (first | exact m.o | exact a7 | refine aK ?_ | refine aQ ?_ ?_ _ | refine aV ?_ ?_ _)) <;> (first | exact a8 | exact m.o.size | (have:=m.o.size;simp [World.setCell];omega) | (simp <;> omega) | omega))
 case rest=>
 obtain⟨M,x0,x1,x2,x3,y1,y2,y3,z1,z2,z3,rfl,rfl,J4,hX,hB⟩:=hcut;obtain⟨w1,rfl⟩:∃w1,w1=wc:=⟨_,rfl⟩;have Y:=a6 (O.o.kept hB.o);have J5:=a6 (Q.o.kept hB.o);have n:=a6 (J2.o.trans (hB.o.mono J2.o.size));have HF:=a6 (fun(w':World) (hb:Below w1 w1 w')=>j_O s _ k (.agg #[x0,(x1,y1,z1),(x2,y2,z2),(x3,y3,z3)]) w' P2 P2 (SchemaV.keep (h9.o) ((n.o.mono P2).trans (hb.mono (by have:=n.o.size;omega))) (by have:=n.o.size;have:=hb.size;omega))
  ⟨_,rfl,dY.keep hb hb.size _ _ (NodeQ.node _ _ hX.o)⟩)
 generalize J6:eV s k=F at HF;have J7:=a6 J6;have J8:=a6 (fun(w':World) (hb:Below w1 w1 w')=>And.intro (Y.o.kept hb) (J4.o.kept hb));have Z:=fun(w':World) (h:At w' M [x0,(x1,y1,z1),(x2,y2,z2),(x3,y3,z3)] 35)=>At.load (P:=Tryz.prog) h Tryz.underlying35 rfl P3
 simp [go_sem]at Z
 clear J6 S HG h8 hX;go_wp2_with fail;go_upto_region 4 with fail;obtain⟨D,hD⟩:∃D,D=(F.1 != 0):=⟨_,rfl⟩;have HD:=a6 hD;clear hD;go_cut [26] (fun x wx=>x= .bool D/\Hid (Below w1 w1 wx))
 case first=>
  have K7:=c_k
  go_region_held3 (fun w'=>At w' N [(a,sn,c),Y1,Y2,Y3,Y4,Y5,(ea,en,ec),Y6,Y7,o0,o1,o2,o3,o4,o5,Y8,t0,(t1,u1,r1),(t2,u2,r2),(t3,u3,r3),(la,xs.length,lc),(ga,lg.length,gc)] 128/\At w' M [x0,(x1,y1,z1),(x2,y2,z2),(x3,y3,z3)] 35) (refine J8.o _ RY)
   (first
   | (refine bQ rfl 16 _ _ rfl P5 [.agg #[(a,sn,c),Y1,Y2,Y3,Y4,Y5,(ea,en,ec),Y6,Y7,o0,o1,o2,o3,o4,o5,Y8], .agg #[x0,(x1,y1,z1),(x2,y2,z2),(x3,y3,z3)]] ?_ _ (HF.o _ P1) ?_
      . go_simp
      rintro e vb ⟨rfl,f⟩;refine⟨_,rfl, ?_⟩;have o:=a6 (b6 (w0:=w1) P1 f);clear f))
  all_goals
   clear Z z;go_wp2_with fail
   go_meet
   case rel=>exact⟨by rw [HD.o],a6 RY⟩
 case rest=>
 obtain⟨rfl,E⟩:=hcut;obtain⟨w2,rfl⟩:∃w2,w2=wc:=⟨_,rfl⟩;have g:=a6 (b6 n.o (E.o.mono (by have:=n.o.size;omega)));have G:=a6 (Y.o.kept E.o);have H0:=a6 (J5.o.kept E.o);have i:=a6 (J0.o.below g.o);have H:=a6 (CJ.of_below N (la,xs.length,lc) (ga,lg.length,gc) g.o);have J9:=a6 (show RowQ w2 (OkB B N (la,xs.length,lc) (ga,lg.length,gc)) 1 pa p.length pc (p.map (Value.int .i64))from Hp.o.keep g.o.size (fun b _ C=>g.o.block b C) (fun _ h _=>h));have K3:=(a_J U.o.1 U.o.2).1;rw [iV,O6]at K3;clear Z z J8 HF J4 hB Y J5 n E O Q;rcases J1.o with⟨h0,rfl,rfl,rfl⟩ | ⟨h1,hl,r,hR,j0,hw,K8⟩
 . --<3
   obtain rfl:D=false:=by rw [HD.o, <- J7.o,h0];rfl
   have j1:∀b,(Value.slice la xs.length lc).ownBlock=some b ->b < W.heap.size:=fun b hb=>J0.o.badlt j7 b (.inr (.inl hb))
   have I:=a6 (j_m 155 #[.pointer W] (fun x=>decide (p=x.1)) B B (la,xs.length,lc) xs w2 P5 i.o.rowx P2 fun x hx W' hg=>by
    obtain⟨x0,xa,xc⟩:=x;exact r_3 p x0 W pa xa pc xc W' (H0.o.grown hg (fun e=>by have:=j1 _ e;omega)) (RowQ.row (J9.o.keep hg.size (fun b hb C=>hg.block b C (fun e=>hb.2 (.inr (.inl e.symm)))) (fun _ h _=>h))) (N5.own (i.o.rowx.all _ hx) hg).row)
   have c20:=G.o.cell 20 rfl;have nl:=G.o.lt
   have K9:∀ (fn:Fn) (first cap:Array Value) (w:World),(Instr.makeFunc fn first cap).run Tryz.prog w= .ok (.func fn first cap) w:=fun _ _ _ _=>rfl
   clear h0 H9 j1;go_wp2_with fail;refine I.o.mono ?_;rintro e w3 ⟨v',rfl,hz,hk,hg⟩;obtain⟨za,zc,K4⟩:=hz.form;subst K4;obtain⟨j2,J⟩:=i.o.del hg hz.own (fun y hy=>(List.mem_filter.1 hy).1) hk;have t:=G.o.grown hg i.o.ln;have s20:=t.cell 20 rfl;have sf:∀j,w3.frozen? ⟨N,j,none⟩=false:=fun j=>Lib.frozen_of_heap t _
   have sl:=t.lt;have j3:=a6 j2;have K:=a6 J;have K5:=a6 t
   have j4:=a6 (show iV (xs.filter fun x=> !decide (p=x.1))=(iV xs).filter (fun q=> !decide (p=q))by unfold iV;rw [List.filter_map];rfl);generalize (xs.filter fun x=> !decide (p=x.1))=zs at j3 K j4 s20;clear hz hk hg j2 J t c20 nl I;go_wp2_with fail;go_ret;exact⟨rfl,t0,t1,t2,t3,u1,u2,u3,r1,r2,r3,zs,lg,za,ga,zc,gc,K5.o.set 20 _,j3.o.keep (World.grownBy.set (FZ _ _) _ _) (fun b e=>by cases e;rfl),j4.o,by simp,(H.o.trans K.o).trans (CJ.of_grown _ _ (World.grownBy.set (FZ _ _) _ _))⟩
 --<4
 obtain rfl:D=true:=by rw [HD.o, <- J7.o];simpa using h1
 have HR:=a6 (p_o s T X k l p N B a ea c ec o0 o1 o2 o3 o4 o5 t0 t1 t2 t3 la ga u1 u2 u3 r1 r2 r3 lc gc xs lg pa pc w2 hs (SchemaV.keep h9.o (g.o.mono P2) (by have:=g.o.size;omega)) j5 G.o i.o U.o J9.o.row j6 j8.o j9.o h1 hl hw hlen P2 j0 r);rw [<- hR]at HR;have c0:=H0.o.cell 0 rfl;have cl:=H0.o.lt
 clear h1 hl r hR j0 hw H9;go_wp2_with fail;refine HR.o.mono ?_;rintro e w3 ⟨rfl,t0',t1',t2',t3',u1',u2',u3',q1,q2,q3,ys,gs,ma,na,mc,nc,h1,h2,h3,h4,h5⟩;have H1:=a6 h1;have H2:=a6 h2;have H3:=a6 h3;have H4:=a6 h4;have H5:=a6 h5
 clear h1 h2 h3 h4 h5 HR c0 cl;go_wp2_with fail;go_ret;exact⟨rfl,t0',t1',t2',t3',u1',u2',u3',q1,q2,q3,ys,gs,ma,na,mc,nc,H1.o,H2.o,H3.o,H4.o,H.o.trans H5.o⟩
theorem eY {s:b5} {n:aX} (h:o8 s n=0):eJ s=0/\dQ n=0/\b8 n=false:=by
 unfold o8 at h;by_cases h1:eJ s=0
 . rw [if_neg UV]at h
   by_cases h2:dQ n=0
   . rw [if_neg R5]at h
     cases hl:b8 n with
     | true=>rw [hl]at h;simp at h
     | false=>exact⟨h1,h2,rfl⟩
   rw [if_pos h2]at h;exact absurd h h2
 rw [if_pos h1]at h;exact absurd h h1
theorem n_2 {L:List (List Int)} (h:pK L):oY L=L:=sK (j8 L) h fun x=>m4
theorem i_V {n:aX} (hw:n.wt <= 1048576) (L:List (List Int)):oY ((L.filter bX).filter (dX n))=oY (L.filter (dX n)):=by
 congr 1
 rw [List.filter_filter];refine List.filter_congr fun q _=> ?_
 cases h:dX n q with
 | false=>simp
 | true=>rw [e_x hw h];rfl
theorem n_3 (z:Int) {n:Nat} (hn:0 < n):(if z.tmod n < 0 then z.tmod n+n else z.tmod n)=((z % (n:Int)).toNat:Int):=by
 have h1:=Int.emod_nonneg z (show ((n:Int))≠0 by omega);have h2:=Int.emod_lt_of_pos z (show (0:Int) < n by omega);have h3:=Int.tmod_eq_emod (a:=z) (b:=(n:Int));rw [h3];split at h3
 . split
   . omega
   omega
 rename_i h5
 have:=(not_or.1 h5).2;simp only [Int.natAbs_natCast];by_cases h0:z % (n:Int)=0
 . exact absurd (Int.dvd_of_emod_eq_zero h0) this
 split <;> omega
theorem r_4 {picks:List Int} {k n:Nat} (hk:k < picks.length):a_t picks k n=(picks[k] % (n:Int)).toNat:=by
 unfold a_t;rw [List.getD,NV hk];rfl
theorem r_5 {picks:List Int} {k n:Nat} (hk:picks.length <= k):a_t picks k n=0:=by
 unfold a_t;rw [List.getD,List.getElem?_eq_none hk];simp
theorem N2.elems {s:b5} {picks:List Int} {k m:Nat} {T A:MT} {ops:List fZ} {L:List (List Int)} (h:N2 s picks k T A m ops L):pK L/\∀q∈L,dX T.bare q=true:=⟨h.left.1,fun q hq=>h.ok.elem q ((h.left.2 q).1 hq)⟩
theorem n_4 {w5 w6:World} {B K:Nat} {T:aX} {ys:List PX} {tc:List Value} {lv:Value} (hB:B <= w5.heap.size) (hX:NodeQ w5 (fun b=>B <= b) T tc) (h6:Below w5 w5 w6) (hr:lV w6 K K lv ys) (hK:w5.heap.size <= K) (o:Obj):
 sY (w6.alloc o) B w6 tc lv () T ys []:=by
 have s1:=h6.size;have f:∀k,lv.ownBlock=some k ->K <= k/\k < w6.heap.size:=fun k hk=>hr.own.lt k hk
 have hb:=b7 w6 o;have d:(Value.slice none 0 0).ownBlock=none:=rfl;refine⟨?_, ?_, ?_,⟨[],World.ownsRow_nil _ _ _ _,m8.nil _ _⟩, ?_, ?_, ?_⟩
 . refine gY (NodeQ.keep s1 (fun b _ a=>h6.block b a) (fun b h a=>⟨h,fun c=> ?_⟩) _ _ hX) hb
   rcases c with e | e | e
   . omega
   . have:=f b e;omega
   rw [d]at e;cases e
 . exact((hr.from (M':=B) (L':=B) P2 P2).below hb).own
 . intro x hx
   refine(hr.all x hx).keep hb.size (fun b _ a=>hb.block b a) (fun b h a=>⟨by have:=h.1;omega,fun c=> ?_⟩);rcases c with e | e | e
   . omega
   . exact h.2 e
   rw [d]at e;cases e
 . intro e;have:=f _ e;omega
 . rw [d];intro e;cases e
 rw [d];intro b _ e;cases e
def c_Q (W:World) (s:b5) (n:aX) (L:List (List Int)) (picks:List Int) (e:Ending) (w':World):Prop:=
 Below W W w'/\(o8 s n≠0/\e= .returned (.tuple #[.agg #[false,(),(),()],(),OY,(o8 s n)])∨
  o8 s n=0/\∃ (A:MT) (m:Nat) (ops:List fZ) (cs:List Value) (na:Option Addr) (nc:Nat),wX s picks 0 (MT.on L n) A m ops/\e= .returned (.tuple #[.agg cs.toArray,(na,ops.length,nc),m,OY])/\NodeQ w' (fun b=>W.heap.size <= b) A.bare cs)
def a_L (a:Act):Nat:=match a.tmps.getD 10 undef with | .int _ q=>q.toNat | _=>0
theorem i_W {P:Program} {c:Code} {Q:Exit ->Act ->World ->Prop} {a:Act} {w:World} (h:c.wp P Q a w):(Code.skip.seq c).wp P Q a w:=wp_seq (wp_skip h)
theorem b_r {sn en:Nat} {Y1 Y3 Y5 Y7:ByteArray} {Y2 Y4 Y6 Y8:Int} (s:b5) (n:aX) (a ea:Option Addr) (c ec:Nat) (o0 o1 o2 o3 o4 o5:Int) (l:Bool) (b1 b2 b3:Option Addr) (m1 m2 m3 d1 d2 d3:Nat) (va:Option Addr) (vc:Nat) (xs:List PX) (picks:List Int) (ka:Option Addr) (kc:Nat) (W:World) (hs:s.wt <= 1048576) (hn:n.wt <= 400000)
 (hu:SchemaV W W s (.agg #[.slice a sn c, .string Y1, .int .i64 Y2, .string Y3, .int .i64 Y4, .string Y5, .slice ea en ec, .int .i64 Y6, .string Y7, .int .i64 o0, .int .i64 o1, .int .i64 o2, .int .i64 o3, .int .i64 o4, .int .i64 o5, .int .i64 Y8])) (hv:bY W W n (.agg #[.bool l, .slice b1 m1 d1, .slice b2 m2 d2, .slice b3 m3 d3])) (hx:u_7 W W (.slice va xs.length vc) xs) (q9:xs.length <= 1048576) (J8:∀x∈xs,x.1.length <= 100000000)
 (J9:RowA W W 1 ka picks.length kc (picks.map (Value.int .i64))) (X0:picks.length <= 1048576) (j0:o8 s n=0 ->a_w s n (iV xs) picks):
 Calls Tryz.prog 22 #[.agg #[.slice a sn c, .string Y1, .int .i64 Y2, .string Y3, .int .i64 Y4, .string Y5, .slice ea en ec, .int .i64 Y6, .string Y7, .int .i64 o0, .int .i64 o1, .int .i64 o2, .int .i64 o3, .int .i64 o4, .int .i64 o5, .int .i64 Y8], .agg #[.bool l, .slice b1 m1 d1, .slice b2 m2 d2, .slice b3 m3 d3], .slice va xs.length vc, .slice ka picks.length kc] W (c_Q W s n (iV xs) picks):=by
 obtain⟨w0,D⟩:∃w0,w0=((W.alloc (Obj.cells #[.slice a sn c, .string Y1, .int .i64 Y2, .string Y3, .int .i64 Y4, .string Y5, .slice ea en ec, .int .i64 Y6, .string Y7, .int .i64 o0, .int .i64 o1, .int .i64 o2, .int .i64 o3, .int .i64 o4, .int .i64 o5, .int .i64 Y8] 30)).alloc (Obj.cells #[.bool l, .slice b1 m1 d1, .slice b2 m2 d2, .slice b3 m3 d3] 35)).alloc (Obj.cells #[.bool false, .slice none 0 0, .slice none 0 0, .slice none 0 0] 35):=⟨_,rfl⟩;have K:Below W W w0:=by rw [D];exact iK _ _ _ _
 have h6:=a6 (show At w0 W [.slice a sn c, .string Y1, .int .i64 Y2, .string Y3, .int .i64 Y4, .string Y5, .slice ea en ec, .int .i64 Y6, .string Y7, .int .i64 o0, .int .i64 o1, .int .i64 o2, .int .i64 o3, .int .i64 o4, .int .i64 o5, .int .i64 Y8] 30 by rw [D];exact((At.fresh W _ _).alloc _).alloc _);have h7:=a6 (show At w0 (W+1) [.bool l, .slice b1 m1 d1, .slice b2 m2 d2, .slice b3 m3 d3] 35 by rw [D];exact(At.second W _ _ _).alloc _);have j1:=a6 (show At w0 (W.heap.size+1+1) [.bool false, .slice none 0 0, .slice none 0 0, .slice none 0 0] 35 by rw [D];exact At.third W _ _ _ _);have j2:=a6 (show w0.heap.size=W.heap.size+3 by rw [D];simp);have HM:=a6 (s_C s n _ _ w0 hs P2 (hu.keep K K.size) (hv.keep K K.size));have i:=a6 K;have j3:=a6 D;have Hu:=a6 hu;have Hv:=a6 hv;have Hx:=a6 hx;have k0:=a6 J9;have k1:=a6 J8;have k2:=a6 j0
 obtain⟨E,hE⟩:∃E,E=o8 s n:=⟨_,rfl⟩;rw [<- hE]at HM;have HE:=a6 hE
 clear D K hu hv hx J9 J8 j0 hE;go_enter Tryz.func22,Tryz.ntmps22;go_wp2_with fail;rw [<- j3.o];clear j3;by_cases h8:E=0
 . subst h8
   obtain⟨k3,k4,k5⟩:=eY HE.o.symm;obtain⟨A,m,LOG,h9,H8,q5,X1⟩:=k2.o HE.o.symm;have C:=b_q k4 k5 h9 H8;have k6:=a6 C;have k7:=a6 h9
   obtain⟨J,hJ⟩:∃J:Act ->World ->Prop,J=fun a' w'=>∃ (k:Nat) (T:MT) (ops:List fZ) (ys:List PX) (gs:List fZ) (N:Nat) (t0:Bool) (t1 t2 t3 ma na:Option Addr) (u1 u2 u3 q1 q2 q3 mc nc:Nat),w0.heap.size <= N/\Hid (N2 s picks k T A m ops (iV ys))/\Hid (gs ++ ops=LOG)/\Hid (At w' N [.slice a sn c, .string Y1, .int .i64 Y2, .string Y3, .int .i64 Y4, .string Y5, .slice ea en ec, .int .i64 Y6, .string Y7, .int .i64 o0, .int .i64 o1, .int .i64 o2, .int .i64 o3, .int .i64 o4, .int .i64 o5, .int .i64 Y8, .bool t0, .slice t1 u1 q1, .slice t2 u2 q2, .slice t3 u3 q3, .slice ma ys.length mc, .slice na gs.length nc] 128)/\Hid (sY w' w0 N [.bool t0, .slice t1 u1 q1, .slice t2 u2 q2, .slice t3 u3 q3] (.slice ma ys.length mc) (.slice na gs.length nc) T.bare ys gs)/\Hid (Below w0 w0 w')/\∃ (v12 v14 v15 v16 v17 v18 v19 v20 v21 v22 v23 v24 v25 v26 v27 v28 v29 v30 v31 v32 v33 v34 v35 v36 v37 v38 v39 v40 v41 v42 v43 v44 v45 v46 v47 v48 v49 v50 v51 v52 v53 v54 v55 v56 v57 v58 v59 v60 v61 v62 v63 v64 v65 v66 v67 v68 v69 v70 v71 v72 v73 v74 v75 v76 v77 v78:Value),a'= { tmps:= #[.agg #[.slice a sn c, .string Y1, .int .i64 Y2, .string Y3, .int .i64 Y4, .string Y5, .slice ea en ec, .int .i64 Y6, .string Y7, .int .i64 o0, .int .i64 o1, .int .i64 o2, .int .i64 o3, .int .i64 o4, .int .i64 o5, .int .i64 Y8], .agg #[.bool l, .slice b1 m1 d1, .slice b2 m2 d2, .slice b3 m3 d3], .slice va xs.length vc, .slice ka picks.length kc, .pointer W, .pointer (some (P0 (W+1) 0)),undef,undef, .pointer (some (P0 (W.heap.size+1+1) 0)), .slice none 0 0, .int .i64 k, .int .i64 0,v12, .pointer N,v14,v15,v16,v17,v18,v19,v20,v21,v22,v23,v24,v25,v26,v27,v28,v29,v30,v31,v32,v33,v34,v35,v36,v37,v38,v39,v40,v41,v42,v43,v44,v45,v46,v47,v48,v49,v50,v51,v52,v53,v54,v55,v56,v57,v58,v59,v60,v61,v62,v63,v64,v65,v66,v67,v68,v69,v70,v71,v72,v73,v74,v75,v76,v77,v78],defers:= [] }:=⟨_,rfl⟩
   have HJ:=a6 hJ;clear hJ C h9 H8;refine(fun(F:∀ (a':Act) (w':World),J a' w' ->Code.wp Tryz.prog _ (Exit.jump 0 (fun a2 w2=>J a2 w2/\m - a_L a2 < m - a_L a') (bodyPost Tryz.prog Tryz.f22 (c_Q W s n (iV xs) picks))) a' w')=>wp_scope_jumps 0 J (fun a' _=>m - a_L a') rfl ?first (fun a' w' h=>i_W (F a' w' h))) ?pass
   case first=>
    have J0:=a6 F;clear F;obtain⟨⟨y0,y1,y2,y3⟩, -,yl⟩:=h7.o.f4
    go_wp2_with (refine bZ rfl _ _ rfl W.heap.size #[.slice a sn c, .string Y1, .int .i64 Y2, .string Y3, .int .i64 Y4, .string Y5, .slice ea en ec, .int .i64 Y6, .string Y7, .int .i64 o0, .int .i64 o1, .int .i64 o2, .int .i64 o3, .int .i64 o4, .int .i64 o5, .int .i64 Y8] rfl h6.o _ Tryz.underlying30 rfl P3 ?_)
    refine HM.o.mono ?_;rintro e w1 ⟨rfl,d⟩;have o:=a6 d
    have t:=a6 (i.o.trans (d.mono i.o.size));have HC:=a6 (fun(w':World) (hb:Below w1 w1 w')=>b_3 n.wt n (.agg #[.bool l, .slice b1 m1 d1, .slice b2 m2 d2, .slice b3 m3 d3]) w' (a8) P2 (Hv.o.keep ((b6 t.o (hb.mono t_E))) YY));have HT:=a6 (fun(w':World) (hb:Below w1 w1 w')=>l_8 n (.agg #[.bool l, .slice b1 m1 d1, .slice b2 m2 d2, .slice b3 m3 d3]) w' (.slice va xs.length vc) xs w' P2 (Hv.o.keep (b6 t.o (hb.mono t_E)) YY) (a8) (Hx.o.keep (b6 t.o (hb.mono t_E)) YY) P2 k1.o);rw [i_V (show n.wt <= 1048576 by omega)]at HT;have k8:=a6 (fun(w':World) (hb:Below w1 w1 w')=>show At w' W [.slice a sn c, .string Y1, .int .i64 Y2, .string Y3, .int .i64 Y4, .string Y5, .slice ea en ec, .int .i64 Y6, .string Y7, .int .i64 o0, .int .i64 o1, .int .i64 o2, .int .i64 o3, .int .i64 o4, .int .i64 o5, .int .i64 Y8] 30/\At w' (W+1) [.bool l, .slice b1 m1 d1, .slice b2 m2 d2, .slice b3 m3 d3] 35 from And.intro ((h6.o.kept o.o).kept hb) ((h7.o.kept o.o).kept hb));have j4:=fun(w':World) (h:At w' W [.slice a sn c, .string Y1, .int .i64 Y2, .string Y3, .int .i64 Y4, .string Y5, .slice ea en ec, .int .i64 Y6, .string Y7, .int .i64 o0, .int .i64 o1, .int .i64 o2, .int .i64 o3, .int .i64 o4, .int .i64 o5, .int .i64 Y8] 30)=>At.load (P:=Tryz.prog) h Tryz.underlying30 rfl P3
    simp [go_sem]at j4
    have L:=fun(w':World) (h:At w' (W+1) [.bool l, .slice b1 m1 d1, .slice b2 m2 d2, .slice b3 m3 d3] 35)=>At.load (P:=Tryz.prog) h Tryz.underlying35 rfl P3
    simp [go_sem]at L
    clear d HM y0 y1 y2 y3 yl;go_upto_region 4 with fail
    go_cut [13] (fun x wx=>∃ (N:Nat) (ys:List PX) (x0:Bool) (x1 x2 x3 ma:Option Addr) (y1 y2 y3 z1 z2 z3 mc:Nat),x= .pointer N/\w1.heap.size <= N/\Hid (At wx N [.slice a sn c, .string Y1, .int .i64 Y2, .string Y3, .int .i64 Y4, .string Y5, .slice ea en ec, .int .i64 Y6, .string Y7, .int .i64 o0, .int .i64 o1, .int .i64 o2, .int .i64 o3, .int .i64 o4, .int .i64 o5, .int .i64 Y8, .bool x0, .slice x1 y1 z1, .slice x2 y2 z2, .slice x3 y3 z3, .slice ma ys.length mc, .slice none 0 0] 128)/\Hid (sY wx w0 N [.bool x0, .slice x1 y1 z1, .slice x2 y2 z2, .slice x3 y3 z3] (.slice ma ys.length mc) (.slice none 0 0) n ys [])/\Hid (iV ys=oY ((iV xs).filter (dX n)))/\Hid (Below w1 w1 wx))
    case first=>
     go_region_held3 (fun w'=>At w' W [.slice a sn c, .string Y1, .int .i64 Y2, .string Y3, .int .i64 Y4, .string Y5, .slice ea en ec, .int .i64 Y6, .string Y7, .int .i64 o0, .int .i64 o1, .int .i64 o2, .int .i64 o3, .int .i64 o4, .int .i64 o5, .int .i64 Y8] 30/\At w' (W+1) [.bool l, .slice b1 m1 d1, .slice b2 m2 d2, .slice b3 m3 d3] 35) ((refine k8.o _ ?_;((with_reducible (repeat (first | exact G.o | exact q.o | exact a7 | refine aK ?_ | refine aQ ?_ ?_ _ | refine aV ?_ ?_ _)) <;> (first | exact a8 | exact G.o.size | exact q.o.size | (have:=G.o.size;simp [World.setCell];omega) | (have:=q.o.size;simp [World.setCell];omega) | (simp <;> omega) | omega)))))
      (first
      | (refine bQ rfl 61 _ _ rfl P5 [.agg #[.bool l, .slice b1 m1 d1, .slice b2 m2 d2, .slice b3 m3 d3]] ?_ _ (HC.o _ P1) ?_
         . go_simp
         rintro e w5 ⟨cs,rfl,J1,d⟩;obtain⟨x0,x1,y1,z1,x2,y2,z2,x3,y3,z3,rfl⟩:=J1.form;refine⟨_,rfl, ?_⟩;have q:=a6 (b6 (w0:=w1) P1 d);have k9:=a6 (show NodeQ w5 (fun b=>w0.heap.size <= b) n [.bool x0, .slice x1 y1 z1, .slice x2 y2 z2, .slice x3 y3 z3]from NodeQ.keep (a8) (fun _ _ _=>rfl) (fun b hb _=>aJ o.o.size (aJ (Below.size (w:=w1) (B:=w1.heap.size) P1) hb)) _ _ J1);clear d J1)
      | (refine bQ rfl 15 _ _ rfl P5 [.agg #[.bool l, .slice b1 m1 d1, .slice b2 m2 d2, .slice b3 m3 d3], .slice va xs.length vc, .agg #[.int .i64 0, .slice none 0 0, .slice none 0 0, .int .i64 0, .bool false, .slice none 0 0, .slice none 0 0, .slice none 0 0, .slice none 0 0, .slice none 0 0, .slice none 0 0, .bool false, .slice none 0 0, .int .i64 0, .slice none 0 0, .int .i64 0, .bool false, .slice none 0 0, .int .i64 0, .slice none 0 0, .int .i64 0]] ?_ _ (HT.o _ RX) ?_
         . go_simp
         rintro e w6 ⟨vx,ys,rfl,Q,j5,d⟩;obtain⟨ma,mc,J2⟩:=Q.form;subst J2;refine⟨_,rfl, ?_⟩;have G:=a6 (b6 (w0:=w1) RX d);have j6:=a6 (b6 (w0:=w5) P1 d);have Q0:=a6 Q;have Q1:=a6 j5;clear d Q j5))
     all_goals
      clear L j4;go_wp2_with fail
      go_meet
      case rel=>
       exact⟨_,ys,x0,x1,x2,x3,ma,y1,y2,y3,z1,z2,z3,mc,rfl,G.o.size,a6 (At.fresh _ _ _),a6 (n_4 (aJ o.o.size q.o.size) k9.o j6.o Q0.o (Below.size (w:=w5) (B:=w5.heap.size) P1) _),Q1,a6 (by(with_reducible (repeat (first | exact G.o | exact a7 | refine aK ?_ | refine aQ ?_ ?_ _ | refine aV ?_ ?_ _)) <;> (first | exact a8 | exact G.o.size | (have:=G.o.size;simp [World.setCell];omega) | (simp <;> omega) | omega)))⟩
    case rest=>
    obtain⟨N,ys,x0,x1,x2,x3,ma,y1,y2,y3,z1,z2,z3,mc,rfl,hN,hA,hS,Q2,hB⟩:=hcut;go_wp2_with fail;go_step3
    rename_i hK
    refine hK _ _ (Code.wp_mono (fun e a' w' h=> ?_) (J0.o _ _ ?_))
    . cases e <;> first | exact h | exact⟨h.1,h.2.1⟩
    rw [HJ.o];have Q3:=a6 (b6 o.o hB.o);have X2:=o.o.size;refine⟨0,MT.on (iV xs) n,LOG,ys, [],N,x0,x1,x2,x3,ma,none,y1,y2,y3,z1,z2,z3,mc,0, ?_⟩;have hb:=mZ (iV xs) n;have hl:=k6.o;rw [<- Q2.o]at hl;exact⟨by omega,a6 hl,a6 rfl,hA,a6 (by rw [hb];exact hS.o),Q3,_,_,_,_,_,_,_,_,_,_,_,_,_,_,_,_,_,_,_,_,_,_,_,_,_,_,_,_,_,_,_,_,_,_,_,_,_,_,_,_,_,_,_,_,_,_,_,_,_,_,_,_,_,_,_,_,_,_,_,_,_,_,_,_,_,_,rfl⟩
   case pass=>
    intro a' w' hj;rw [HJ.o]at hj;obtain⟨k,T,ops,ys,gs,N,t0,t1,t2,t3,ma,na,u1,u2,u3,q1,q2,q3,mc,nc,hN,C,S,hA,hS,hB,hv⟩:=hj;obtain⟨v12,v14,v15,v16,v17,v18,v19,v20,v21,v22,v23,v24,v25,v26,v27,v28,v29,v30,v31,v32,v33,v34,v35,v36,v37,v38,v39,v40,v41,v42,v43,v44,v45,v46,v47,v48,v49,v50,v51,v52,v53,v54,v55,v56,v57,v58,v59,v60,v61,v62,v63,v64,v65,v66,v67,v68,v69,v70,v71,v72,v73,v74,v75,v76,v77,v78,rfl⟩:=hv;have U:=C.o.elems;have X3:=c_P C.o.run;have j7:=C.o.wt;have hlen:=a_J U.1 U.2;have Q4:ys.length <= 399000:=by have h:=hlen.1;rw [iV,O6]at h;omega
    have J3:=a6 (l_9 w' (.slice ma ys.length mc) ys w' (a8) hS.o.rowx.read P2 (fun x hx=>by have:=hlen.2 x.1 (List.mem_map_of_mem hx);omega));rw [n_2 U.1]at J3;have Q5:=a6 U
    have c20:=hA.o.cell 20 rfl;have nl:=hA.o.lt
    have j8:=j7;clear hlen U HM;go_wp2_with fail;refine J3.o.mono ?_;rintro e w2 ⟨vz,zs,rfl,hz,j9,d⟩;have Hz:=a6 hz
    have V:=a6 j9;have Y:=a6 (hA.o.kept d);have Z:=a6 (hS.o.below d);have j:=a6 (b6 hB.o d);have Q6:=a6 hB.o.size;have K0:=a6 (j1.o.kept j.o);obtain⟨za,zc,J2⟩:=hz.form;subst J2;clear hz j9 d J3 c20 nl;by_cases M:zs= []
    . --<4
      subst M;have hr:m5 (iV ys)= []:=by rw [<- V.o];rfl
      obtain⟨eA,em,eo⟩:=C.o.stop hr;have L:=fun(w':World) (h:At w' N [.slice a sn c, .string Y1, .int .i64 Y2, .string Y3, .int .i64 Y4, .string Y5, .slice ea en ec, .int .i64 Y6, .string Y7, .int .i64 o0, .int .i64 o1, .int .i64 o2, .int .i64 o3, .int .i64 o4, .int .i64 o5, .int .i64 Y8, .bool t0, .slice t1 u1 q1, .slice t2 u2 q2, .slice t3 u3 q3, .slice ma ys.length mc, .slice na gs.length nc] 128)=>At.part (P:=Tryz.prog) h 16 [.bool t0, .slice t1 u1 q1, .slice t2 u2 q2, .slice t3 u3 q3] rfl Tryz.underlying35 rfl P3
      simp [go_sem]at L
      have Q7:=L w2 Y.o;have c21:=Y.o.cell 21 rfl;have nl:=Y.o.lt
      obtain⟨⟨r0,r1,r2,r3⟩,rf,rl⟩:=K0.o.f4;have Q8:=a6 (And.intro eA (And.intro em eo));have Q9:=a6 (show W.heap.size+1+1≠N by have:=j2.o;omega);have HK:=a6 (fun(w3:World) (hg:w2.grownBy w3 (some (W.heap.size+1+1)))=>show At w3 N [.slice a sn c, .string Y1, .int .i64 Y2, .string Y3, .int .i64 Y4, .string Y5, .slice ea en ec, .int .i64 Y6, .string Y7, .int .i64 o0, .int .i64 o1, .int .i64 o2, .int .i64 o3, .int .i64 o4, .int .i64 o5, .int .i64 Y8, .bool t0, .slice t1 u1 q1, .slice t2 u2 q2, .slice t3 u3 q3, .slice ma ys.length mc, .slice na gs.length nc] 128/\w3.cell? (P0 N 21)=some (.slice na gs.length nc)from by
       have h:=Y.o.grown hg (fun e=>Q9.o t_4);exact⟨h,h.cell 21 rfl⟩)
      clear Q7 c21 eA em eo hr;go_upto_region 7 with fail
      go_region_held3 (fun w'=>At w' N [.slice a sn c, .string Y1, .int .i64 Y2, .string Y3, .int .i64 Y4, .string Y5, .slice ea en ec, .int .i64 Y6, .string Y7, .int .i64 o0, .int .i64 o1, .int .i64 o2, .int .i64 o3, .int .i64 o4, .int .i64 o5, .int .i64 Y8, .bool t0, .slice t1 u1 q1, .slice t2 u2 q2, .slice t3 u3 q3, .slice ma ys.length mc, .slice na gs.length nc] 128/\w'.cell? (P0 N 21)=some (.slice na gs.length nc)) ((refine HK.o _ ?_;with_reducible (repeat (first | exact FZ _ _ | refine World.grownBy.set ?_ _ _ | refine a_K ?_)))) (fail)
      all_goals
       clear L;go_wp2_with fail;simp only [Exit.jump];have hQ:=((((K0.o.set 0 (.bool t0)).set 1 (.slice t1 u1 q1)).set 2 (.slice t2 u2 q2)).set 3 (.slice t3 u3 q3))
       obtain⟨⟨e0,e1,e2,e3⟩, -, -⟩:=At.f4 hQ;refine bodyPost_ret (v:= .tuple #[.agg #[.bool t0, .slice t1 u1 q1, .slice t2 u2 q2, .slice t3 u3 q3], .slice na gs.length nc, .int .i64 k, .int .i64 0]) (by simp [results,Tryz.results22,go_sem,e0,e1,e2,e3]) rfl ?_;obtain⟨eA,em,eo⟩:=Q8.o;have K1:gs=LOG:=by have h:=S.o;rw [eo]at h;rwa [List.append_nil]at h
       subst eA;subst em;subst K1;have H0:=a6 (i.o.trans (j.o.mono i.o.size));refine⟨by(with_reducible (repeat (first | exact H0.o | exact a7 | refine aK ?_ | refine aQ ?_ ?_ _ | refine aV ?_ ?_ _)) <;> (first | exact a8 | exact H0.o.size | (have:=H0.o.size;simp [World.setCell];omega) | (simp <;> omega) | omega)), .inr ⟨HE.o.symm,A,m,gs, [.bool t0, .slice t1 u1 q1, .slice t2 u2 q2, .slice t3 u3 q3],na,nc,k7.o,rfl, ?_⟩⟩;have hq:=lX (NodeQ.keep (ok':=fun b=>W.heap.size+3 <= b) (a8) (fun _ _ _=>rfl) (fun b h _=>by have:=h.1;have:=j2.o;omega) _ _ Z.o.tree) (N:=W.heap.size+1+1) P2 (.bool t0) (.slice t1 u1 q1) (.slice t2 u2 q2) (.slice t3 u3 q3);have K2:∀w',NodeQ w' (fun b=>W.heap.size+3 <= b) A.bare [.bool t0, .slice t1 u1 q1, .slice t2 u2 q2, .slice t3 u3 q3] ->NodeQ w' (fun b=>W.heap.size <= b) A.bare [.bool t0, .slice t1 u1 q1, .slice t2 u2 q2, .slice t3 u3 q3]:=fun w' h=>NodeQ.keep (a8) (fun _ _ _=>rfl) (fun b h _=>by omega) _ _ h
       exact gY (K2 _ hq) (Below.drew (a7))
    --<5
    have hr:m5 (iV ys)≠ []:=fun e=>M (by rw [<- V.o]at e;exact List.map_eq_nil_iff.1 e)
    obtain⟨p,kk,X,R,lo,ops',T',u⟩:=N2.go k3 C.o hr;obtain⟨I,hI⟩:∃I,I=a_t picks k zs.length:=⟨_,rfl⟩;have K3:0 < zs.length:=List.length_pos_iff.2 M;have J4:I < zs.length:=by rw [hI];exact l_p picks k K3
    have y:=u.pick;rw [show (m5 (iV ys)).length=zs.length by rw [<- V.o,iV,O6], <- hI, <- V.o]at y;have J5:zs[I].1=p:=by
     rw [iV,List.getElem?_map,NV J4]at y;injection y
    have q6:zs.length <= 399000:=by
     have h:=j_Y none (iV ys);rw [show lY none (iV ys)=iV zs from V.o.symm,iV,iV,O6,O6]at h
     omega
    have X4:=c_P u.next.run;rcases Hz.o.open with⟨-,e⟩ | ⟨bz,capz,tlz,e,X5,J6,X6,X7⟩
    . exact absurd e M
    injection e with e1 e2 e3
    subst e1;subst e3;have H:=xZ J6 I J4;have J7:=Hz.o.all _ (NY J4);generalize zs[I]=x at H J7 J5;obtain⟨p0,pa,pc⟩:=x;simp only at J5;subst J5;have K9:w2.cell? (bz,I)=some (.slice pa p0.length pc):=H
    have X8:=J6.lt;have H9:=hS.o.badlt hA.o.lt;have HP:=a6 (show RowQ w2 (OkB w0 N (.slice ma ys.length mc) (.slice na gs.length nc)) 1 pa p0.length pc (p0.map (Value.int .i64))from RowQ.keep J7 (a8) (fun _ _ _=>rfl) (fun b h _=>⟨by have:=h.1;have:=Q6.o;omega,fun hb=>by have:=H9 b hb;have:=h.1;omega⟩));have K4:gs.length+lo.length <= 90000000000:=by
     have h1:=congrArg List.length S.o;rw [u.ops,NZ,NZ]at h1;omega
    have O:=a6 (s_b s T.bare X kk R lo p0 N w0 a ea c ec o0 o1 o2 o3 o4 o5 t0 t1 t2 t3 ma na u1 u2 u3 q1 q2 q3 mc nc ys gs pa pc w2 hs (SchemaV.keep Hu.o (i.o.trans (j.o.mono i.o.size)) i.o.size) hN Y.o Z.o Q5.o HP.o (by have:=u.len;omega) u.at_ u.leaf P2 u.how K4);have K5:=a6 (show RowA w2 w2 1 ka picks.length kc (picks.map (Value.int .i64))from k0.o.keep (i.o.trans (j.o.mono i.o.size)) (i.o.trans (j.o.mono i.o.size)).size);have g:=a6 u;have q7:(I:Int) < zs.length:=P2
    have q8:(0:Int) < zs.length:=P2
    have X9:decide ((zs.length:Int)=0)=false:=P8
    have HI:=a6 hI;have x4:=a6 M;clear u y H J7 J6 H9 K4 hr hI M j7 j8 Q4;by_cases hk:k < picks.length
    . --<6
      have q4:(k:Int) < picks.length:=P2
      obtain⟨kb,koff,rfl,x5,K6⟩:=K5.o.some_ (by intro e;rw [List.map_eq_nil_iff.1 e]at hk;simp at hk);have H6:w2.cell? (kb,koff+k)=some (.int .i64 picks[k]):=K6 k _ (by simp [NV hk]);have K7:=a6 (show I=(picks[k] % (zs.length:Int)).toNat by rw [HI.o,r_4 hk]);generalize picks[k]=z at H6 K7;clear K6;have H7:(if z.tmod (zs.length:Int) < 0 then z.tmod (zs.length:Int)+zs.length else z.tmod (zs.length:Int))=(I:Int):=by rw [n_3 z K3,K7.o]
      go_upto_region 11 with fail;generalize z.tmod (zs.length:Int)=r at H7⊢
      by_cases h0:r < 0
      . rw [if_pos h0]at H7
        have x6: -399000 <= r:=P2
        go_wp2_with fail;refine O.o.mono ?_;rintro e w3 ⟨rfl,t0',t1',t2',t3',u1',u2',u3',q1',q2',q3',ys',gs',ma',na',mc',nc',h1,h2,h3,h4,h5⟩;have H1:=a6 h1;have H2:=a6 h2;have H3:=a6 h3;have H4:=a6 h4;have H5:=a6 h5
        clear h1 h2 h3 h4 h5 O;go_wp2_with fail;go_step3;refine⟨rfl, ?_, ?_⟩
        . rw [HJ.o]
          have f:=g.o.next;rw [<- H3.o]at f;exact⟨k+1,T',ops',ys',gs',N,t0',t1',t2',t3',ma',na',u1',u2',u3',q1',q2',q3',mc',nc',hN,a6 f,a6 YX,H1,a6 t_b,a6 (j.o.trans (H5.o.old j.o.size (Z.o.bad hN))),_,_,_,_,_,_,_,_,_,_,_,_,_,_,_,_,_,_,_,_,_,_,_,_,_,_,_,_,_,_,_,_,_,_,_,_,_,_,_,_,_,_,_,_,_,_,_,_,_,_,_,_,_,_,_,_,_,_,_,_,_,_,_,_,_,_,rfl⟩
        simp [a_L];omega
      rw [if_neg h0]at H7;subst H7;go_wp2_with fail;refine O.o.mono ?_;rintro e w3 ⟨rfl,t0',t1',t2',t3',u1',u2',u3',q1',q2',q3',ys',gs',ma',na',mc',nc',h1,h2,h3,h4,h5⟩;have H1:=a6 h1;have H2:=a6 h2;have H3:=a6 h3;have H4:=a6 h4;have H5:=a6 h5
      clear h1 h2 h3 h4 h5 O;go_wp2_with fail;go_step3;refine⟨rfl, ?_, ?_⟩
      . rw [HJ.o]
        have f:=g.o.next;rw [<- H3.o]at f;exact⟨k+1,T',ops',ys',gs',N,t0',t1',t2',t3',ma',na',u1',u2',u3',q1',q2',q3',mc',nc',hN,a6 f,a6 YX,H1,a6 t_b,a6 (j.o.trans (H5.o.old j.o.size (Z.o.bad hN))),_,_,_,_,_,_,_,_,_,_,_,_,_,_,_,_,_,_,_,_,_,_,_,_,_,_,_,_,_,_,_,_,_,_,_,_,_,_,_,_,_,_,_,_,_,_,_,_,_,_,_,_,_,_,_,_,_,_,_,_,_,_,_,_,_,_,rfl⟩
      simp [a_L];omega
    --<7
    have q4:¬ (k:Int) < picks.length:=P2
    obtain rfl:I=0:=by rw [HI.o,r_5 P2]
    go_wp2_with fail;refine O.o.mono ?_;rintro e w3 ⟨rfl,t0',t1',t2',t3',u1',u2',u3',q1',q2',q3',ys',gs',ma',na',mc',nc',h1,h2,h3,h4,h5⟩;have H1:=a6 h1;have H2:=a6 h2;have H3:=a6 h3;have H4:=a6 h4;have H5:=a6 h5
    clear h1 h2 h3 h4 h5 O;go_wp2_with fail;go_step3;refine⟨rfl, ?_, ?_⟩
    . rw [HJ.o]
      have f:=g.o.next;rw [<- H3.o]at f;exact⟨k+1,T',ops',ys',gs',N,t0',t1',t2',t3',ma',na',u1',u2',u3',q1',q2',q3',mc',nc',hN,a6 f,a6 YX,H1,a6 t_b,a6 (j.o.trans (H5.o.old j.o.size (Z.o.bad hN))),_,_,_,_,_,_,_,_,_,_,_,_,_,_,_,_,_,_,_,_,_,_,_,_,_,_,_,_,_,_,_,_,_,_,_,_,_,_,_,_,_,_,_,_,_,_,_,_,_,_,_,_,_,_,_,_,_,_,_,_,_,_,_,_,_,_,rfl⟩
    simp [a_L];omega
 --<9
 have x7:(E != 0)=true:=by simpa using h8
 go_step3;obtain⟨⟨y0,y1,y2,y3⟩, -,yl⟩:=h7.o.f4
 go_wp2_with (refine bZ rfl _ _ rfl W.heap.size #[.slice a sn c, .string Y1, .int .i64 Y2, .string Y3, .int .i64 Y4, .string Y5, .slice ea en ec, .int .i64 Y6, .string Y7, .int .i64 o0, .int .i64 o1, .int .i64 o2, .int .i64 o3, .int .i64 o4, .int .i64 o5, .int .i64 Y8] rfl h6.o _ Tryz.underlying30 rfl P3 ?_)
 refine HM.o.mono ?_;rintro e w1 ⟨rfl,d⟩;have K8:=a6 (j1.o.kept d)
 have o:=a6 (i.o.trans (d.mono i.o.size));obtain⟨⟨z0,z1,z2,z3⟩,zf,zl⟩:=K8.o.f4;clear d HM y0 y1 y2 y3 yl;go_wp2_with fail;obtain⟨⟨q0,q1,q2,q3⟩, -, -⟩:=At.f4 ((((K8.o.set 0 (.bool false)).set 1 (.slice none 0 0)).set 2 (.slice none 0 0)).set 3 (.slice none 0 0));refine bodyPost_ret (v:= .tuple #[.agg #[.bool false, .slice none 0 0, .slice none 0 0, .slice none 0 0], .slice none 0 0, .int .i64 0, .int .i64 E]) (by simp [results,Tryz.results22,go_sem,q0,q1,q2,q3]) rfl ?_;refine⟨?_, .inl ⟨by rw [<- HE.o];exact h8,by rw [<- HE.o]⟩⟩
 (with_reducible (repeat (first | exact o.o | exact a7 | refine aK ?_ | refine aQ ?_ ?_ _ | refine aV ?_ ?_ _)) <;> (first | exact a8 | exact o.o.size | (have:=o.o.size;simp [World.setCell];omega) | (simp <;> omega) | omega))
end Go.Proofs.YtmadpclcmjahoaaGreatDoor
