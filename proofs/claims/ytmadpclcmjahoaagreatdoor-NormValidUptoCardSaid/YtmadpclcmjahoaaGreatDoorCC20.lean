/- Parts of the proof: CC20. -/
import Derived.Test.YtmadpclcmjahoaaGreatDoorCC18
import Derived.Test.YtmadpclcmjahoaaGreatDoorCC19
set_option linter.unusedVariables false
set_option linter.unusedSimpArgs false
set_option maxHeartbeats 8000000
set_option maxRecDepth 100000
namespace Go.Proofs.YtmadpclcmjahoaaGreatDoor
open Go.RowKit Go.Redl
theorem o_D:∀args w,(callFunc 16 args).run Tryz.prog w= .ok (.enter 16 args) w:=PY
theorem e_A:∀args w,(callFunc 55 args).run Tryz.prog w= .ok (.enter 55 args) w:=PY
theorem o_E:∀args w,(callFunc 56 args).run Tryz.prog w= .ok (.enter 56 args) w:=PY
theorem o_F:∀args w,(callFunc 57 args).run Tryz.prog w= .ok (.enter 57 args) w:=PY
theorem h_1:∀args w,(callFunc 58 args).run Tryz.prog w= .ok (.enter 58 args) w:=PY
theorem i_o:∀args w,(callFunc 59 args).run Tryz.prog w= .ok (.enter 59 args) w:=PY
abbrev r_p (W:World) (r:List fZ×Int) (e:Ending) (w':World):Prop:= ∃v,e= .returned (.tuple #[v,r.2])/\b_Q W w' r.1 v/\Below W W w'
theorem d_i (r:bK) (ks:List aX):∀cs:List Int,wZ r ks cs=(0,0,0)∨ ∃c∈cs,0 <= gV r ks c/\wZ r ks cs=(c,gV r ks c,(j7 r ks c:Int))
 | []=> .inl rfl
 | c::cs=>by
   by_cases h:0 <= gV r ks c
   . exact .inr ⟨c,by simp,h,by unfold wZ;rw [if_pos h]⟩
   rw [show wZ r ks (c::cs)=wZ r ks cs by(conv=>lhs;unfold wZ);rw [if_neg h]];rcases d_i r ks cs with h' | ⟨c',hc,h1,h2⟩
   . exact .inl h'
   exact .inr ⟨c',by simp [hc],h1,h2⟩
theorem oV (s:b5) (n:aX):eV s n=(0,0,0)∨ ∃ (c j:Nat),b8 n=false/\1 <= c/\c <= 6/\gV (cJ s (dZ n)) (aY n) c=j/\eV s n=((c:Int),(j:Int),(j7 (cJ s (dZ n)) (aY n) c:Int))/\(c≠6 ->j < (aY n).length)/\(c=4 ->0 < j)/\(c=6 ->j=0):=by
 unfold eV;cases hl:b8 n with
 | true=>exact .inl P6
 | false=>
   simp only [Bool.false_eq_true,if_false];rcases d_i (cJ s (dZ n)) (aY n) s.order with h | ⟨c, -,h1,h2⟩
   . exact .inl h
   have hr:=NK h1;generalize cJ s (dZ n)=r at h1 h2⊢;generalize aY n=ks at h1 h2⊢;refine .inr ⟨c.toNat,(gV r ks c).toNat,trivial,by omega,by omega, ?_, ?_,fun h6=> ?_,fun h4=> ?_,fun h6=> ?_⟩
   . rw [show ((c.toNat:Nat):Int)=c by omega];omega
   . rw [h2,show ((c.toNat:Nat):Int)=c by omega,show (((gV r ks c).toNat:Nat):Int)=gV r ks c by omega]
   . unfold gV at h1⊢
     rw [if_neg P2]at h1⊢;rcases jV (D2 r ks c) ks.length with⟨k,hk, -, -,he⟩ | ⟨-,he⟩
     . rw [he];simpa using hk
     rw [he]at h1;omega
   . obtain rfl:c=4:=P2
     rw [f_T]at h1⊢;rcases jV (BK ks) ks.length with⟨k,hk,hp, -,he⟩ | ⟨-,he⟩
     . rw [he]
       unfold BK at hp;simp only [Bool.and_eq_true,decide_eq_true_eq]at hp;simpa using hp.1
     rw [he]at h1;omega
   obtain rfl:c=6:=P2
   rw [AY]at h1⊢;split at h1
   . rename_i h;rw [if_pos h];rfl
   omega
theorem q_H (r:bK) (ks:List aX) (c:Int):j7 r ks c <= ks.length+1:=by
 unfold j7;split
 . unfold b_C
   have:=(List.takeWhile_sublist (fun a=>decide (a=(m9 r ks).getD (gV r ks c).toNat (0, []))) (l:=(m9 r ks).drop ((gV r ks c).toNat+1))).length_le;simp only [List.length_drop,O6]at this;omega
 omega
theorem At.map {w w':World} {N b:Nat} {cs:List Value} {T:TypeId} (h:At w N cs T) (ho:b_S b w w') (a:N≠b):At w' N cs T:=by
 unfold At;rw [ho.block N a];exact h
theorem m_l (s:b5) (sv:Value) (n:aX) (v:Value) (p:List Int) (pa:Option Addr) (pc:Nat) (W:World) (j2:s.wt <= 100000000) (hw:n.wt <= 100000000) (hs:SchemaV W W s sv) (hv:bY W W n v) (hp:RowA W W 1 pa p.length pc (p.map (Value.int .i64))) (Q6:p.length <= 500000):
 Calls Tryz.prog 12 #[sv,v,(pa,p.length,pc)] W (r_p W (p_P s n p)):=by
 have j3:=hv;have j4:=hs
 have H1:=zJ p n;obtain⟨R0,h7⟩:∃R0,R0=p_P s n p:=⟨_,rfl⟩;have u:R0=match l9 n p with
  | none=>([],5)
  | some k=>if b8 k then ([],7) else if (eV s k).1=0 then ([],14) else (nX (cJ s (dZ k)) (aY k) p (eV s k),0):=by rw [h7];rfl
 rw [<- h7];obtain⟨a,c,rcss,ea,ec,o0,o1,o2,o3,o4,o5,rfl, -, -, -,ho⟩:=j4.open;have Q7:=g8 W (Obj.cells #[(a,s.rules.length,c),aZ s.els.type,s.els.text.1,aZ s.els.text.2,s.els.other.1,aZ s.els.other.2,(ea,s.els.kids.length,ec),s.els.fill,aZ s.els.fillT,o0,o1,o2,o3,o4,o5,s.cap] 30);have hG:=fun(w1:World) (hb:Below W W w1)=>f_G n p v pa pc w1 hw (hv.keep hb hb.size) (hp.keep hb hb.size)
 obtain⟨lf,ps,t,ks⟩:=n;obtain⟨ap,cp,at_,ct,ak,ck,css,rfl, -, -, -, -⟩:=j3.open;generalize aX.mk lf ps t ks=n at hv hw H1 u hG;obtain⟨w0,U⟩:∃w0,w0=(W.alloc (Obj.cells #[(a,s.rules.length,c),aZ s.els.type,s.els.text.1,aZ s.els.text.2,s.els.other.1,aZ s.els.other.2,(ea,s.els.kids.length,ec),s.els.fill,aZ s.els.fillT,o0,o1,o2,o3,o4,o5,s.cap] 30)).alloc (Obj.cells #[lf,(ap,ps.length,cp),(at_,t.length,ct),(ak,ks.length,ck)] 35):=⟨_,rfl⟩;have i:Below W W w0:=by rw [U];exact g8 _ _ _
 have hA:At w0 W [(a,s.rules.length,c),aZ s.els.type,s.els.text.1,aZ s.els.text.2,s.els.other.1,aZ s.els.other.2,(ea,s.els.kids.length,ec),s.els.fill,aZ s.els.fillT,o0,o1,o2,o3,o4,o5,s.cap] 30:=by rw [U];exact(At.fresh _ _ _).alloc _
 have hX:At w0 (W+1) [lf,(ap,ps.length,cp),(at_,t.length,ct),(ak,ks.length,ck)] 35:=by rw [U];exact At.second _ _ _ _
 have j5:=fun(w1:World) (hb:Below w0 w0 w1)=>hs.keep (i.trans (hb.mono i.size)) (i.trans (hb.mono i.size)).size
 have h8:=a6 j5;have j6:=a6 (fun(w1:World) (hb:Below w0 w0 w1)=>hp.keep (i.trans (hb.mono i.size)) (i.trans (hb.mono i.size)).size);have HG:=a6 (hG w0 i);have E:=a6 U;have G:=a6 i;have HA:=a6 hA
 obtain⟨⟨y0,y1,y2,y3⟩, -,yl⟩:=hX.f4;clear U i hA hX j5 hG hv j3 hs j4 hp h7 ho Q7;cases V:l9 n p with
 | none=>
   rw [V]at HG u;have HR:=a6 (show R0=([],5)from u)
   clear u V H1;go_enter Tryz.func12,Tryz.ntmps12;go_upto_region 1 with fail;rw [<- E.o];clear E;go_wp2_with fail;refine HG.o.mono ?_;rintro e w1 ⟨rfl,d⟩;have X:=a6 (G.o.trans (d.mono G.o.size))
   clear d HG;go_wp2_with fail;go_ret2;rw [HR.o];exact⟨_,rfl,b_Q.nil _ _,X.o.alloc X.o.size _⟩
 | some k =>
   rw [V]at HG u;have H2:k.wt <= 100000000:=aJ (H1 k V) hw
   clear hw H1 V;obtain⟨lk,pk,tk,kk⟩:=k
   cases lk with
   | true=>
     have HR:=a6 (show R0=([],7)from u);clear u;go_enter Tryz.func12,Tryz.ntmps12;go_upto_region 1 with fail;rw [<- E.o];clear E;go_wp2_with fail;refine HG.o.mono ?_;rintro e w1 ⟨cs,rfl,hq,d⟩;obtain⟨bp,dp,bt,dt,bk,dk,cqs,rfl, -, -, -, -, -⟩:∃bp dp bt dt bk dk cqs,cs= [.bool true, .slice bp pk.length dp, .slice bt tk.length dt, .slice bk kk.length dk]/\RowQ w1 (fun b=>w0.heap.size <= b) 2 bp pk.length dp (cK pk)/\RowQ w1 (fun b=>w0.heap.size <= b) 1 bt tk.length dt (tk.map (Value.int .i32))/\(∀z∈tk,(Lit.int .i32 z).wf=true)/\RowQ w1 (fun b=>w0.heap.size <= b) 4 bk kk.length dk cqs/\dK w1 (fun b=>w0.heap.size <= b) kk cqs:=by
      unfold NodeQ at hq;exact hq
     have X:=a6 (G.o.trans (d.mono G.o.size));clear d HG hq;go_wp2_with fail;go_ret2;rw [HR.o];exact⟨_,rfl,b_Q.nil _ _,X.o.alloc X.o.size _⟩
   | false =>
     have H:R0=if (eV s (.mk false pk tk kk)).1=0 then ([],14) else (nX (cJ s (dZ (.mk false pk tk kk))) kk p (eV s (.mk false pk tk kk)),0):=u
     have h9:=fun(v:Value) (w1:World) (hv:bY w1 w1 (.mk false pk tk kk) v)=>j_i (.mk false pk tk kk) v w1 H2 hv
     have H3:=fun(w1:World) (hb:Below w0 w0 w1)=>b_O s _ (dZ (.mk false pk tk kk)) w1 j2 (h8.o w1 hb)
     have H4:=fun(v:Value) (w1:World) (hb:Below w0 w0 w1) (hv:bY w1 w1 (.mk false pk tk kk) v)=>j_O s _ (.mk false pk tk kk) v w1 j2 H2 (h8.o w1 hb) hv
     have I:=oV s (.mk false pk tk kk);have H5:=q_H (cJ s (dZ (.mk false pk tk kk))) kk;have Q8:fY kk <= 100000000:=by simp only [aX.wt]at H2;omega
     have J0:(cJ s (dZ (.mk false pk tk kk))).kids.length <= 100000000:=by have:=M0 (cJ s (dZ (.mk false pk tk kk)));have:=a_B s (dZ (.mk false pk tk kk));omega
     simp only [aY]at I;generalize dZ (.mk false pk tk kk)=ty at h9 H3 H I H5 J0;generalize cJ s ty=R at H3 H I H5 J0;generalize eV s (.mk false pk tk kk)=F at H4 H I;obtain⟨f1,f2,f3⟩:=F;simp only at H4 H;have j8:=a6 I;have J1:=a6 H5;have j9:=a6 h9;have K0:=a6 H3;have K1:=a6 H4;have A:=a6 H
     clear I H5 h9 H3 H4 H u;have Y:=fun(w':World) (h:At w' W [(a,s.rules.length,c),aZ s.els.type,s.els.text.1,aZ s.els.text.2,s.els.other.1,aZ s.els.other.2,(ea,s.els.kids.length,ec),s.els.fill,aZ s.els.fillT,o0,o1,o2,o3,o4,o5,s.cap] 30)=>At.load (P:=Tryz.prog) h Tryz.underlying30 rfl P3
     simp [go_sem]at Y
     have Q9:=a6 Y;clear Y;go_enter Tryz.func12,Tryz.ntmps12;go_upto_region 1 with fail;rw [<- E.o];clear E;go_wp2_with fail;refine HG.o.mono ?_;rintro e w1 ⟨cs,rfl,hq,d⟩;obtain⟨bp,dp,bt,dt,bk,dk,cqs,rfl,q0,q1,q2,K2,K3⟩:∃bp dp bt dt bk dk cqs,cs= [.bool false, .slice bp pk.length dp, .slice bt tk.length dt, .slice bk kk.length dk]/\RowQ w1 (fun b=>w0.heap.size <= b) 2 bp pk.length dp (cK pk)/\RowQ w1 (fun b=>w0.heap.size <= b) 1 bt tk.length dt (tk.map (Value.int .i32))/\(∀z∈tk,(Lit.int .i32 z).wf=true)/\RowQ w1 (fun b=>w0.heap.size <= b) 4 bk kk.length dk cqs/\dK w1 (fun b=>w0.heap.size <= b) kk cqs:=by
      have:=hq;unfold NodeQ at this;exact this
     obtain⟨w2,H6⟩:∃w2,w2=w1.alloc (Obj.cells #[false,(bp,pk.length,dp),(bt,tk.length,dt),(bk,kk.length,dk)] 35):=⟨_,rfl⟩;have r:Below w1 w1 w2:=by rw [H6];exact b7 _ _
     have J2:=d.trans (r.mono d.size);have J3:At w2 w1 [false,(bp,pk.length,dp),(bt,tk.length,dt),(bk,kk.length,dk)] 35:=by rw [H6];exact At.fresh _ _ _
     have K4:=a6 (show bY w2 w2 (.mk false pk tk kk) (.agg #[false,(bp,pk.length,dp),(bt,tk.length,dt),(bk,kk.length,dk)])from⟨_,rfl,NodeQ.node _ _ (hq.since r)⟩);have K5:=a6 ((K2.since r).row);have K6:=a6 (dK.kids _ _ (dK.keep r.size (fun b _ H7=>r.block b H7) (fun _ h _=>h) _ _ K3))
     have L:=a6 J2;have K7:=a6 (HA.o.kept J2);have K8:=a6 J3
     have h3:=a6 (fun(w':World) (hb:Below w2 w2 w')=>K0.o w' (L.o.trans (hb.mono L.o.size)));have h4:=a6 (fun(w':World) (hb:Below w2 w2 w')=>K1.o _ w' (L.o.trans (hb.mono L.o.size)) (K4.o.keep hb hb.size));have h5:=a6 (fun(w':World) (hb:Below w2 w2 w')=>j9.o _ w' (K4.o.keep hb hb.size));have Z:=fun(w':World) (h:At w' w1 [false,(bp,pk.length,dp),(bt,tk.length,dt),(bk,kk.length,dk)] 35)=>At.load (P:=Tryz.prog) h Tryz.underlying35 rfl P3
     simp [go_sem]at Z
     have q3:=a6 Z;have K9:=a6 H6;obtain⟨⟨n0,n1,n2,n3⟩, -,nl⟩:=J3.f4;clear d HG hq q0 q1 q2 K2 K3 H6 r J2 J3 Z K0 K1 j9 h8 y0 y1 y2 y3 yl HA;go_upto_region 2 with fail
     rw [<- K9.o];clear K9;go_upto_region 6 with fail
     go_cut [10] (fun q wx=>∃ (M:Nat) (ra:Option Addr) (rc:Nat),q= .pointer M/\At wx M [(pa,p.length,pc),false,(bp,pk.length,dp),(bt,tk.length,dt),(bk,kk.length,dk),aZ R.type,R.text.1,aZ R.text.2,R.other.1,aZ R.other.2,(ra,R.kids.length,rc),R.fill,aZ R.fillT,f1,f2,f3] 98/\RowQ wx (fun b=>b≠M) 3 ra R.kids.length rc (fV R.kids)/\w2.heap.size <= M/\Below w2 w2 wx)
     case first=>
      clear n0 n1 n2 n3 nl A j8 J1 K5 K6 j6;have Y:=Q9.o
      have Z:=q3.o;have q4:=a6 (fun(w':World) (hb:Below w2 w2 w')=>And.intro (K7.o.kept hb) (K8.o.kept hb))
      go_region_held3 (fun w'=>At w' W [(a,s.rules.length,c),aZ s.els.type,s.els.text.1,aZ s.els.text.2,s.els.other.1,aZ s.els.other.2,(ea,s.els.kids.length,ec),s.els.fill,aZ s.els.fillT,o0,o1,o2,o3,o4,o5,s.cap] 30/\At w' w1 [false,(bp,pk.length,dp),(bt,tk.length,dt),(bk,kk.length,dk)] 35) (refine q4.o _ (by(with_reducible (repeat (first | exact O.o | exact x.o | exact y.o | exact a7 | refine aK ?_ | refine aQ ?_ ?_ _ | refine aV ?_ ?_ _)) <;> (first | exact a8 | exact O.o.size | exact x.o.size | exact y.o.size | (have:=O.o.size;simp [World.setCell];omega) | (have:=x.o.size;simp [World.setCell];omega) | (have:=y.o.size;simp [World.setCell];omega) | (simp <;> omega) | omega))))
       (first
       | (refine bQ rfl 54 _ _ rfl d_U [.agg #[false,(bp,pk.length,dp),(bt,tk.length,dt),(bk,kk.length,dk)]] ?_ _ (h5.o _ P1) ?_
          . go_simp
          rintro e w3 ⟨rfl,d⟩;refine⟨_,rfl, ?_⟩;have q5:=a6 d.size;have y:=a6 (Below.and (w0:=w2) P1 d)
          first
           | (refine At.lay (N:= ?_) (cs:= [(),false,(),(),(),aZ [],OY,aZ [],OY,aZ [],(),OY,aZ [],OY,OY,OY]) (T:=98) (At.kept ?_ d) ?_
              rotate_left
              . with_reducible (repeat (first | exact At.second _ _ _ _ | exact At.fresh _ _ _ | refine At.drew ?_ | refine At.alloc ?_ _))
              intro q6)
           | skip
          clear d)
       | (refine bQ rfl 53 _ _ rfl e_n [.agg #[(a,s.rules.length,c),aZ s.els.type,s.els.text.1,aZ s.els.text.2,s.els.other.1,aZ s.els.other.2,(ea,s.els.kids.length,ec),s.els.fill,aZ s.els.fillT,o0,o1,o2,o3,o4,o5,s.cap],aZ ty] ?_ _ (h3.o _ RK) ?_
          . go_simp
          rintro e w4 ⟨ra,rc,rfl,B,d⟩;refine⟨_,rfl, ?_⟩;have q7:=a6 d.size;have x:=a6 (Below.and (w0:=w2) RK d);have H0:=a6 (B.keep (a8) (fun _ _ _=>rfl) (fun b hb H7=>And.intro hb H7))
          first
           | (refine At.lay (N:= ?_) (cs:= [(),false,(),(),(),aZ [],OY,aZ [],OY,aZ [],(),OY,aZ [],OY,OY,OY]) (T:=98) (At.kept ?_ d) ?_
              rotate_left
              . with_reducible (repeat (first | exact q6.o | exact At.second _ _ _ _ | exact At.fresh _ _ _ | refine At.drew ?_ | refine At.alloc ?_ _))
              intro q8)
           | skip
          clear d B)
       | (refine bQ rfl 16 _ _ rfl o_D [.agg #[(a,s.rules.length,c),aZ s.els.type,s.els.text.1,aZ s.els.text.2,s.els.other.1,aZ s.els.other.2,(ea,s.els.kids.length,ec),s.els.fill,aZ s.els.fillT,o0,o1,o2,o3,o4,o5,s.cap], .agg #[false,(bp,pk.length,dp),(bt,tk.length,dt),(bk,kk.length,dk)]] ?_ _ (h4.o _ RQ) ?_
          . go_simp
          rintro e w5 ⟨rfl,d⟩;refine⟨_,rfl, ?_⟩;have q9:=a6 d.size;have O:=a6 (Below.and (w0:=w2) RQ d);have X0:=a6 (Below.and (w0:=w4) P1 d)
          first
           | (refine At.lay (N:= ?_) (cs:= [(),false,(),(),(),aZ [],OY,aZ [],OY,aZ [],(),OY,aZ [],OY,OY,OY]) (T:=98) (At.kept ?_ d) ?_
              rotate_left
              . with_reducible (repeat (first | exact q8.o | exact At.second _ _ _ _ | exact At.fresh _ _ _ | refine At.drew ?_ | refine At.alloc ?_ _))
              intro H8)
           | skip
          first
           | (obtain⟨⟨r0,r1,r2,r3,r4,r5,r6,r7,r8,r9,r10,r11,r12,r13,r14,r15⟩,rf,rl⟩:=H8.o.f16)
           | skip
          clear d))
      all_goals
       clear Y Z;go_wp2_with fail
       go_meet
       case rel=>
        have X1:=q5.o;have X2:=q7.o;have X3:=q9.o
        simp at X1 X2 X3
        refine⟨_,ra,rc,rfl, ?_, ?_, ?_, ?_⟩
        . (repeat (first | with_reducible exact H8.o | with_reducible exact H8.o.s16 _ _ _ _ _ _ _ _ _ _ _ _ _ _ _ _ | with_reducible exact(H8.o.alloc _).s16 _ _ _ _ _ _ _ _ _ _ _ _ _ _ _ _ | with_reducible exact At.second _ _ _ _ | with_reducible exact At.fresh _ _ _ | (with_reducible refine At.fresh2 ?_;(simp [World.setCell];done)) | with_reducible refine At.drew ?_ | with_reducible refine At.alloc ?_ _ | (with_reducible refine At.n16 ?_ ?_ _ _ _ _ _ _ _ _ _ _ _ _ _ _ _ _;rotate_left;(omega))))
        . (repeat (first | with_reducible refine o_h ?_ P6 _ _ _ _ _ _ _ _ _ _ _ _ _ _ _ _ | with_reducible refine A7 ?_ _))
          refine(H0.o.since X0.o).keep (a8) (fun _ _ _=>rfl) (fun b hb H7=> ?_)
          try simp at hb
          intro e;omega
        . omega
        (with_reducible (repeat (first | exact O.o | exact a7 | refine aK ?_ | refine aQ ?_ ?_ _ | refine aV ?_ ?_ _)) <;> (first | exact a8 | exact O.o.size | (have:=O.o.size;simp [World.setCell];omega) | (simp <;> omega) | omega))
     case rest=>
      obtain⟨M,ra,rc,rfl,hM,B,Y2,k0⟩:=hcut;obtain⟨J,hJ⟩:∃J:Value,J= .agg #[(pa,p.length,pc),false,(bp,pk.length,dp),(bt,tk.length,dt),(bk,kk.length,dk),aZ R.type,R.text.1,aZ R.text.2,R.other.1,aZ R.other.2,(ra,R.kids.length,rc),R.fill,aZ R.fillT,f1,f2,f3]:=⟨_,rfl⟩;have k1:=fun(w':World) (h:At w' M [(pa,p.length,pc),false,(bp,pk.length,dp),(bt,tk.length,dt),(bk,kk.length,dk),aZ R.type,R.text.1,aZ R.text.2,R.other.1,aZ R.other.2,(ra,R.kids.length,rc),R.fill,aZ R.fillT,f1,f2,f3] 98)=>(show (Instr.loadAt 98 (.pointer M)).run Tryz.prog w'= .ok J w' by
       rw [hJ];exact At.load (P:=Tryz.prog) h Tryz.underlying98 rfl P3)
      simp [go_sem]at k1
      have X4:∀ (fn:Fn) (first cap:Array Value) (w:World),(Instr.makeFunc fn first cap).run Tryz.prog w= .ok (.func fn first cap) w:=fun _ _ _ _=>rfl
      have HM:=a6 hM;have H0:=a6 B;have H9:=a6 k0;have HJ:=a6 hJ
      have Y3:=hM.lt;clear B k0 hJ hM h3 h4 h5 K7 K8 n0 n1 n2 n3 nl;go_upto_region 7 with fail
      go_upto_region 8 with(first
       | (refine GX rfl _ rfl ?_
          intro p0 h0;have k2:At p0 M [(pa,p.length,pc),false,(bp,pk.length,dp),(bt,tk.length,dt),(bk,kk.length,dk),aZ R.type,R.text.1,aZ R.text.2,R.other.1,aZ R.other.2,(ra,R.kids.length,rc),R.fill,aZ R.fillT,f1,f2,f3] 98:=by rw [h0];exact HM.o.alloc _
          have X5:=a6 (show yZ p0 wc []by rw [h0];exact yZ.fresh wc);have X6:=a6 (show Below wc wc p0 by rw [h0];exact b7 wc (.map #[] 0));clear h0)
       | (refine gQ rfl 100 3 99 _ _ 1 rfl wc.heap.size [] (.func (.func 55) #[J] #[]) rfl rfl X5.o Tryz.underlying100 Tryz.underlying3 P6 rfl ?_
          intro p1 k3 J4;have k4:=k2.map J4 P2
          have X7:=a6 k3;have X8:=a6 (J4.below X6.o (a8));clear k3 J4)
       | (refine gQ rfl 100 3 99 _ _ 5 rfl wc.heap.size [(1, .func (.func 55) #[J] #[])] (.func (.func 55) #[J] #[]) rfl rfl X7.o Tryz.underlying100 Tryz.underlying3 P6 rfl ?_
          intro p2 k5 J5;have k6:=k4.map J5 P2
          have X9:=a6 k5;have x0:=a6 (J5.below X8.o (a8));clear k5 J5)
       | (refine gQ rfl 100 3 99 _ _ 2 rfl wc.heap.size [(1, .func (.func 55) #[J] #[]),(5, .func (.func 55) #[J] #[])] (.func (.func 56) #[J] #[]) rfl rfl X9.o Tryz.underlying100 Tryz.underlying3 P6 rfl ?_
          intro p3 k7 J6;have k8:=k6.map J6 P2
          have x1:=a6 k7;have x2:=a6 (J6.below x0.o (a8));clear k7 J6)
       | (refine gQ rfl 100 3 99 _ _ 3 rfl wc.heap.size [(1, .func (.func 55) #[J] #[]),(5, .func (.func 55) #[J] #[]),(2, .func (.func 56) #[J] #[])] (.func (.func 57) #[J] #[]) rfl rfl x1.o Tryz.underlying100 Tryz.underlying3 P6 rfl ?_
          intro p4 k9 J7;have Q0:=k8.map J7 P2
          have x3:=a6 k9;have x4:=a6 (J7.below x2.o (a8));clear k9 J7)
       | (refine gQ rfl 100 3 99 _ _ 4 rfl wc.heap.size [(1, .func (.func 55) #[J] #[]),(5, .func (.func 55) #[J] #[]),(2, .func (.func 56) #[J] #[]),(3, .func (.func 57) #[J] #[])] (.func (.func 58) #[J] #[]) rfl rfl x3.o Tryz.underlying100 Tryz.underlying3 P6 rfl ?_
          intro p5 Q1 J8;have Q2:=Q0.map J8 P2
          have x5:=a6 Q1;have x6:=a6 (J8.below x4.o (a8));clear Q1 J8)
       | (refine gQ rfl 100 3 99 _ _ 6 rfl wc.heap.size [(1, .func (.func 55) #[J] #[]),(5, .func (.func 55) #[J] #[]),(2, .func (.func 56) #[J] #[]),(3, .func (.func 57) #[J] #[]),(4, .func (.func 58) #[J] #[])] (.func (.func 59) #[J] #[]) rfl rfl x5.o Tryz.underlying100 Tryz.underlying3 P6 rfl ?_
          intro p6 Q3 J9;have j0:=Q2.map J9 P2
          have x7:=a6 Q3;have j1:=a6 (J9.below x6.o (a8));clear Q3 J9))
      have x13:=j0.cell 13 rfl;have xl:=j0.lt;have Q4:∀w,(zeroValue 99).run Tryz.prog w= .ok .nilFunc w:=XX
      have D:=a6 (fun(k:Int)=>l_4 (P:=Tryz.prog) (K:=3) x7.o Tryz.underlying100 Tryz.underlying3 .nilFunc Q4 k (show ([1,5,2,3,4,6]:List Int).Nodup by decide));have Q5:=a6 (L.o.trans ((H9.o.trans (j1.o.mono H9.o.size)).mono L.o.size));have f:=a6 (G.o.trans (Q5.o.mono G.o.size));have h2:=a6 (H9.o.trans (j1.o.mono H9.o.size));have Y4:kk.length+1 <= 100000000:=by have:=i7 kk;simp only [aX.wt]at H2;omega
      have Q:=a6 (fun(j:Nat) (hj:j <= 100000000)=>(show b_R p6 p pa pc kk bk dk cqs j from⟨j6.o _ Q5.o,Q6,K5.o.keep h2.o h2.o.size,eX.keep h2.o h2.o.size _ _ K6.o,Q8,hj⟩));have x8:=a6 ((H0.o.since j1.o).row);clear k1 X4 k2 k4 k6 k8 Q0 Q2 j0 Q4;rcases j8.o with hF | ⟨cn,j, -,h1,h6, -,hF,S,x9,Y0⟩
      . obtain ⟨rfl,rfl,rfl⟩:f1=0/\f2=0/\f3=0:=by simpa using hF
        have HR:=a6 (show R0=([],14)from A.o);have ha:(Instr.lookup 100 (.map (some wc.heap.size)) OY true).run Tryz.prog p6= .ok (.tuple #[.nilFunc,false]) p6:=D.o 0;go_wp2_with fail;go_ret2;rw [HR.o];exact⟨_,rfl,b_Q.nil _ _,f.o⟩
      obtain⟨rfl,rfl,rfl⟩:f1=cn/\f2=j/\f3=j7 R kk cn:=by simpa using hF
      have Y5:cn≠6 ->j <= 100000000:=fun h=>by have:=S h;omega
      have Y1:=J1.o (cn:Int);rcases(show cn=1∨cn=2∨cn=3∨cn=4∨cn=5∨cn=6 by omega)with rfl | rfl | rfl | rfl | rfl | rfl
      . -- class 1
        have HR:=a6 (show R0=(nX R kk p (1,(j:Int),(j7 R kk 1:Int)),0)from A.o);have ha:(Instr.lookup 100 (.map (some wc.heap.size)) (.int .i64 1) true).run Tryz.prog p6= .ok (.tuple #[.func (.func 55) #[J] #[],true]) p6:=D.o 1;have HC:=a6 (show Calls Tryz.prog 55 #[J] p6 (e_r p6 (nX R kk p (1,(j:Int),(j7 R kk 1:Int))))by
         rw [HJ.o];have h:=i_1 p pa pc kk bk dk cqs false (bp,pk.length,dp) (bt,tk.length,dt) (aZ R.type) R.text.1 (aZ R.text.2) R.other.1 (aZ R.other.2) (ra,R.kids.length,rc) R.fill (aZ R.fillT) (.int .i64 1) (j7 R kk 1) j p6 (Q.o j P2) (S P2)
         simpa [nX,pX,sJ]using h)
        generalize nX R kk p (1,(j:Int),(j7 R kk 1:Int))=l at HR HC;have C:=e_A;go_wp2_with fail;refine HC.o.mono ?_;rintro e w9 ⟨v9,rfl,g,d⟩;have m:=a6 g;have o:=a6 (f.o.trans (d.mono f.o.size))
        clear d g HC;go_wp2_with fail;go_ret2;rw [HR.o];exact⟨_,rfl,m.o.from f.o.size,o.o⟩
      . -- class 2
        have HR:=a6 (show R0=(nX R kk p (2,(j:Int),(j7 R kk 2:Int)),0)from A.o);have ha:(Instr.lookup 100 (.map (some wc.heap.size)) (.int .i64 2) true).run Tryz.prog p6= .ok (.tuple #[.func (.func 56) #[J] #[],true]) p6:=D.o 2;have HC:=a6 (show Calls Tryz.prog 56 #[J] p6 (e_r p6 (nX R kk p (2,(j:Int),(j7 R kk 2:Int))))by
         rw [HJ.o];have h:=s_2 p pa pc kk bk dk cqs false (bp,pk.length,dp) (bt,tk.length,dt) (aZ R.type) R.text.1 (aZ R.text.2) R.other.1 (aZ R.other.2) (ra,R.kids.length,rc) R.fill (aZ R.fillT) (.int .i64 2) (j7 R kk 2) j p6 (Q.o j P2) (S P2)
         simpa [nX,pX,sJ]using h)
        generalize nX R kk p (2,(j:Int),(j7 R kk 2:Int))=l at HR HC;have C:=o_E;go_wp2_with fail;refine HC.o.mono ?_;rintro e w9 ⟨v9,rfl,g,d⟩;have m:=a6 g;have o:=a6 (f.o.trans (d.mono f.o.size))
        clear d g HC;go_wp2_with fail;go_ret2;rw [HR.o];exact⟨_,rfl,m.o.from f.o.size,o.o⟩
      . -- class 3
        have HR:=a6 (show R0=(nX R kk p (3,(j:Int),(j7 R kk 3:Int)),0)from A.o);have ha:(Instr.lookup 100 (.map (some wc.heap.size)) (.int .i64 3) true).run Tryz.prog p6= .ok (.tuple #[.func (.func 57) #[J] #[],true]) p6:=D.o 3;have HC:=a6 (show Calls Tryz.prog 57 #[J] p6 (e_r p6 (nX R kk p (3,(j:Int),(j7 R kk 3:Int))))by
         rw [HJ.o];have h:=s_3 p pa pc kk bk dk cqs R ra rc false (bp,pk.length,dp) (bt,tk.length,dt) (.int .i64 3) j (j7 R kk 3) p6 (Q.o j P2) (S P2) x8.o J0 (by have:=J1.o 3;omega)
         simpa [nX,pX,sJ]using h)
        generalize nX R kk p (3,(j:Int),(j7 R kk 3:Int))=l at HR HC;have C:=o_F;go_wp2_with fail;refine HC.o.mono ?_;rintro e w9 ⟨v9,rfl,g,d⟩;have m:=a6 g;have o:=a6 (f.o.trans (d.mono f.o.size))
        clear d g HC;go_wp2_with fail;go_ret2;rw [HR.o];exact⟨_,rfl,m.o.from f.o.size,o.o⟩
      . -- class 4
        have HR:=a6 (show R0=(nX R kk p (4,(j:Int),(j7 R kk 4:Int)),0)from A.o);have ha:(Instr.lookup 100 (.map (some wc.heap.size)) (.int .i64 4) true).run Tryz.prog p6= .ok (.tuple #[.func (.func 58) #[J] #[],true]) p6:=D.o 4;have HC:=a6 (show Calls Tryz.prog 58 #[J] p6 (e_r p6 (nX R kk p (4,(j:Int),(j7 R kk 4:Int))))by
         rw [HJ.o];have h:=k_2 p pa pc kk bk dk cqs false (bp,pk.length,dp) (bt,tk.length,dt) (aZ R.type) R.text.1 (aZ R.text.2) R.other.1 (aZ R.other.2) (ra,R.kids.length,rc) R.fill (aZ R.fillT) (.int .i64 4) (j7 R kk 4) j p6 (Q.o j P2) (S P2) (x9 rfl)
         simpa [nX,pX,sJ]using h)
        generalize nX R kk p (4,(j:Int),(j7 R kk 4:Int))=l at HR HC;have C:=h_1;go_wp2_with fail;refine HC.o.mono ?_;rintro e w9 ⟨v9,rfl,g,d⟩;have m:=a6 g;have o:=a6 (f.o.trans (d.mono f.o.size))
        clear d g HC;go_wp2_with fail;go_ret2;rw [HR.o];exact⟨_,rfl,m.o.from f.o.size,o.o⟩
      . -- class 5
        have HR:=a6 (show R0=(nX R kk p (5,(j:Int),(j7 R kk 5:Int)),0)from A.o);have ha:(Instr.lookup 100 (.map (some wc.heap.size)) (.int .i64 5) true).run Tryz.prog p6= .ok (.tuple #[.func (.func 55) #[J] #[],true]) p6:=D.o 5;have HC:=a6 (show Calls Tryz.prog 55 #[J] p6 (e_r p6 (nX R kk p (5,(j:Int),(j7 R kk 5:Int))))by
         rw [HJ.o];have h:=i_1 p pa pc kk bk dk cqs false (bp,pk.length,dp) (bt,tk.length,dt) (aZ R.type) R.text.1 (aZ R.text.2) R.other.1 (aZ R.other.2) (ra,R.kids.length,rc) R.fill (aZ R.fillT) (.int .i64 5) (j7 R kk 5) j p6 (Q.o j P2) (S P2)
         simpa [nX,pX,sJ]using h)
        generalize nX R kk p (5,(j:Int),(j7 R kk 5:Int))=l at HR HC;have C:=e_A;go_wp2_with fail;refine HC.o.mono ?_;rintro e w9 ⟨v9,rfl,g,d⟩;have m:=a6 g;have o:=a6 (f.o.trans (d.mono f.o.size))
        clear d g HC;go_wp2_with fail;go_ret2;rw [HR.o];exact⟨_,rfl,m.o.from f.o.size,o.o⟩
      -- class 6
      have HR:=a6 (show R0=(nX R kk p (6,(j:Int),(j7 R kk 6:Int)),0)from A.o);have ha:(Instr.lookup 100 (.map (some wc.heap.size)) (.int .i64 6) true).run Tryz.prog p6= .ok (.tuple #[.func (.func 59) #[J] #[],true]) p6:=D.o 6;have HC:=a6 (show Calls Tryz.prog 59 #[J] p6 (e_r p6 (nX R kk p (6,(j:Int),(j7 R kk 6:Int))))by
       rw [HJ.o];have h:=m_k p pa pc kk bk dk cqs false (bp,pk.length,dp) (bt,tk.length,dt) (aZ R.type) R.text.1 (aZ R.text.2) R.other.1 (aZ R.other.2) (ra,R.kids.length,rc) (.int .i64 6) (j7 R kk 6) R.fill R.fillT j p6 (Q.o j (by have:=Y0 rfl;omega))
       simpa [nX,pX,sJ]using h)
      generalize nX R kk p (6,(j:Int),(j7 R kk 6:Int))=l at HR HC;have C:=i_o;go_wp2_with fail;refine HC.o.mono ?_;rintro e w9 ⟨v9,rfl,g,d⟩;have m:=a6 g;have o:=a6 (f.o.trans (d.mono f.o.size))
      clear d g HC;go_wp2_with fail;go_ret2;rw [HR.o];exact⟨_,rfl,m.o.from f.o.size,o.o⟩
def i_p (r:bK) (ks:List aX) (f:vJ):Prop:=(f.1=3 ->dQ (gX (eQ r (cY ks f.2.1.toNat)).2)=0)/\(f.1=6 ->r.fill≠1 ->dQ (gX r.fillT)=0)
theorem a_i {r:bK} {ks:List aX} {j:Nat} (h:gV r ks 4=j):0 < j/\j < ks.length/\b8 (cY ks j)=true/\b8 (cY ks (j - 1))=true/\dJ (cY ks j)=dJ (cY ks (j - 1)):=by
 unfold gV at h;rw [if_neg P9]at h;rcases jV (D2 r ks 4) ks.length with⟨k,hk,hp, -,he⟩ | ⟨-,he⟩
 . rw [he]at h
   have:k=j:=P2
   subst this;have h2:(decide (0 < k) && (b8 (cY ks k) && (b8 (cY ks (k - 1)) && decide (dJ (cY ks k)=dJ (cY ks (k - 1))))))=true:=hp
   simp only [Bool.and_eq_true,decide_eq_true_eq]at h2;exact⟨h2.1,hk,h2.2.1,h2.2.2.1,h2.2.2.2⟩
 rw [he]at h;omega
theorem c_I (t:List UInt8):b8 (gX t)=false:=rfl
theorem D8 (t:List UInt8):aY (gX t)= []:=rfl
theorem a_j:dQ (.mk true [] [] [])=0:=P9
theorem o_G {s:b5} {n k:aX} {p:List Int} (hn:dQ n=0) (hr:b8 n=false) (ha:l9 n p=some k) (hf:(eV s k).1≠0) (hw:i_p (cJ s (dZ k)) (aY k) (eV s k)):
 oZ n ((nX (cJ s (dZ k)) (aY k) p (eV s k)).map fZ.full)=some (jX n p (setKids k (a_8 (cJ s (dZ k)) (aY k) (eV s k)))):=by
 rcases oV s k with h | ⟨c,j,hk,h1,h6,hj,hF,d,h4,v⟩
 . rw [h]at hf;exact absurd rfl hf
 generalize cJ s (dZ k)=r at hj hF hw⊢;rw [hF]at hw⊢;unfold i_p at hw;simp only [O0]at hw;have hE:=sQ (BJ p n k hn ha)
 obtain rfl | rfl | rfl | rfl | rfl | rfl:c=1∨c=2∨c=3∨c=4∨c=5∨c=6:=P2
 . have a:=d P2
   rw [zQ (.inl rfl),K6 (.inl rfl)];simp only [O0];rw [kid_at a];rw [List.map_cons,xK (d_F hn hr ha hk a)];rfl
 . have a:=d P2
   rw [a_9 rfl,e_g rfl];simp only [O0];rw [kid_at a,List.map_append,b_N,List.map_map,List.range_eq_range'];have h:=e_e hn hr ha hk a (aY (aY k)[j]).length 0 P2
   rw [e_c a,setKids_self,K5 p n k ha]at h;rw [show ((List.range' 0 (aY (aY k)[j]).length).map (fZ.full ∘ fun i:Nat=>(⟨5,p ++ [(j:Int),0],p ++ [(j:Int)+(1+(i:Int))],0,cV, []⟩:fZ)))=_ from rfl]at *;have h':oZ n (List.map (fZ.full ∘ fun i:Nat=>(⟨5,p ++ [(j:Int),0],p ++ [(j:Int)+(1+(i:Int))],0,cV, []⟩:fZ)) (List.range' 0 (aY (aY k)[j]).length))=_:=h;rw [h'];show oZ _ _=_;have w:=LQ p n k (setKids k (rQ (aY k) j (aY k)[j] (aY (aY k)[j]).length)) ha;have b:j < (aY (setKids k (rQ (aY k) j (aY k)[j] (aY (aY k)[j]).length))).length:=by rw [kids_setKids,a_A a (a8)];omega
   have hx:(aY (setKids k (rQ (aY k) j (aY k)[j] (aY (aY k)[j]).length)))[j]=jY (aY k)[j]:=by
    have:=e_d (x:=(aY k)[j]) (t:=(aY (aY k)[j]).length) a;simp only [kids_setKids];rw [NV (by rw [kids_setKids]at b;exact b)]at this;rw [Option.some.inj this];rw [List.drop_eq_nil_of_le (a8)];generalize (aY k)[j]=x
    cases x;rfl
   have f:=d_F (LV hn ha hk (c_y a rfl hE)) ((a_z ha).trans hr) w ((mK _ _).trans hk) b;rw [hx]at f;rw [List.map_cons,xK f,kids_setKids,setKids_setKids,GK p n k _ _ ha];show some _=some _
   congr 3
   unfold rQ;rw [List.eraseIdx_append_of_length_le P8]
   simp [O8 (Nat.le_of_lt a)]
 . have a:=d P2
   rw [GQ rfl,b_b rfl];simp only [O0];have g:=hw.1 rfl
   have hm:=c_A r (aY k) j a u_1;have y:j7 r (aY k) ((3:Nat):Int)=j7 r (aY k) 3:=rfl;rw [y];generalize j7 r (aY k) 3=m at hm⊢;have o:b8 (gX (eQ r (cY (aY k) j)).2)=false:=rfl;have q:aY (gX (eQ r (cY (aY k) j)).2)= []:=rfl;generalize gX (eQ r (cY (aY k) j)).2=x at g o q⊢;rw [List.map_cons,xK (d_E hn hr ha hk g (Nat.le_of_lt a)), <- e_f q,List.map_map,List.range_eq_range'];exact(h_P hn hr ha hk g o m 0 P2).trans (by rw [O5])
 . have z:gV r (aY k) 4=j:=hj
   obtain⟨g1,g2,g3,g4,g5⟩:=a_i z;rw [K8 rfl,c_z rfl];simp only [O0];obtain⟨i,rfl⟩:∃i,j=i+1:=⟨j - 1,by omega⟩;have e:i+1 - 1=i:=P2
   rw [e]at g4 g5⊢;rw [kid_at g2]at g3 g5;rw [kid_at (show i < (aY k).length by omega)]at g4 g5;rw [kid_at g2,kid_at (show i < (aY k).length by omega),List.map_cons,xK (l_0 hn hr ha hk g2 g4 g3)]
   rfl
 . have a:=d P2
   rw [zQ (.inr rfl),K6 (.inr rfl)];simp only [O0];rw [kid_at a];rw [List.map_cons,xK (d_F hn hr ha hk a)];rfl
 obtain rfl:=v rfl;rw [a_a rfl,e_h rfl];have hx:dQ (if r.fill=1 then aX.mk true [] [] [] else gX r.fillT)=0:=by
  split
  . exact a_j
  rename_i h;exact hw.2 rfl h
 generalize (if r.fill=1 then aX.mk true [] [] [] else gX r.fillT)=x at hx⊢;have u:aY k= []:=by
  have l:gV r (aY k) 6=0:=hj;rw [AY]at l;split at l
  . rename_i h;exact O2 h.1
  cases l
 rw [List.map_cons,xK (d_E (i:=0) hn hr ha hk hx (Nat.zero_le _)),u]
 rfl
def tV (t:List UInt8):Bool:=decide (t≠ []) && d_v t
def yQ (lift:Bool) (a:CZ):Bool:=if a.1=4 then tV a.2 else if a.1=3 then lift && decide (a.2= []) else if a.1=1∨a.1=2 then decide (a.2= []) else false
def vV:Option (List UInt8) ->List (List UInt8) ->Bool
 | _, []=>true
 | none,t::l=>tV t && vV (some t) l
 | some p,t::l=>tV t && (!leB t p && vV (some t) l)
def EQ (l:List (List UInt8)):Bool:=vV none l && decide (l.length <= 32)
def b_X (r:bK):Bool:=(decide (r.fill=0∨r.fill=1) && decide (r.fillT= [])) || (decide (r.fill=2) && tV r.fillT)
def oJ (r:bK):Bool:=r.kids.all (fun p=>yQ true p.2) && (b_X r && (yQ false r.text && (yQ true r.other && EQ (r.kids.map (·.1)))))
abbrev rJ (s:b5):List bK:=s.rules ++ [s.els]
def iY (r:bK):List (List UInt8):= [r.type,r.text.2,r.other.2,r.fillT] ++ r.kids.flatMap (fun p=> [p.1,p.2.2])
def M4 (s:b5):List (List UInt8):=(rJ s).flatMap iY ++ [[]]
def zK (s:b5) (r:bK) (n:List UInt8):Bool:= !(decide ((lJ r n).1=4) && (decide ((lJ r (lJ r n).2).1≠1) || decide ((lJ (cJ s (lJ r n).2) n).1≠1)))
def BX (s:b5) (r:bK):Bool:=
 !(decide (r.text.1=4) && (decide ((lJ r r.text.2).1≠1) || decide ((cJ s r.text.2).text.1≠1))) && ((M4 s).all (zK s r) &&
   (if r.fill=1 then decide (r.text.1=1) else if r.fill=2 then decide ((lJ r r.fillT).1=1) else true))
def l8 (s:b5):Nat ->List (List UInt8) ->bK ->Nat ->Int
 | 0,_,_,_=> -1
 | f+1,met,r,n=>if r.fill=0 then n else if r.fill=1 then (n:Int)+1 else if r.type∈met then -1 else l8 s f (r.type::met) (cJ s r.fillT) (n+1)
def mQ (s:b5) (r:bK):Int:=l8 s (s.rules.length+2) [] r 0
def a_k (s:b5):Bool:= [1,2,3,4,5,6].all fun c=>decide ((s.order.filter (fun x=>decide (x=c))).length=1)
def eJ (s:b5):Int:=
 if a_k s && (decide (1 <= s.cap) && decide (s.cap <= 1048576)) && (decide (s.els.type= []) && (EQ (s.rules.map (·.type)) && (rJ s).all oJ)) && (rJ s).all (fun r=>BX s r && decide (0 <= mQ s r)) then 0 else 12
def oX (s:b5):Int×Int:=if eJ s≠0 then (0,eJ s) else ((rJ s).foldl (fun m r=>max m (mQ s r)) 0,0)
theorem i_q (s:b5):0 <= (oX s).1:=by
 unfold oX;split
 . simp
 have h:∀ (l:List bK) (m:Int),0 <= m ->0 <= l.foldl (fun m r=>max m (mQ s r)) m:=by
  intro l;induction l with
  | nil=>intro m hm;exact hm
  | cons r l ih=>intro m hm;exact ih _ (by show 0 <= max m (mQ s r);omega)
 exact h _ 0 (Int.le_refl _)
theorem AZ {s:b5} (h:eJ s=0):∀r∈rJ s,oJ r=true/\BX s r=true/\0 <= mQ s r:=by
 unfold eJ at h;split at h
 . rename_i h2
   simp only [Bool.and_eq_true,List.all_eq_true,decide_eq_true_eq]at h2;intro r hr;exact⟨h2.1.2.2.2 r hr,(h2.2 r hr).1,(h2.2 r hr).2⟩
 cases h
theorem IQ (s:b5) (k:List UInt8):cJ s k∈rJ s:=by
 rcases LZ s k with h | h
 . exact List.mem_append_left _ h
 rw [h];simp [rJ]
theorem b_i:∀ (l:List (List UInt8)) (o:Option (List UInt8)),vV o l=true ->∀t∈l,tV t=true
 | [],o,h,t,ht=>by cases ht
 | x::l,none,h,t,ht=>by
   simp only [vV,Bool.and_eq_true]at h;rcases OJ ht with rfl | ht
   . exact h.1
   exact b_i l _ h.2 t ht
 | x::l,some p,h,t,ht=>by
   simp only [vV,Bool.and_eq_true]at h;rcases OJ ht with rfl | ht
   . exact h.1
   exact b_i l _ h.2.2 t ht
structure d_G (r:bK):Prop where
 acts:∀p∈r.kids,yQ true p.2=true
 fill:b_X r=true
 text:yQ false r.text=true
 other:yQ true r.other=true
 names:∀p∈r.kids,tV p.1=true
theorem B3 {r:bK} (h:oJ r=true):d_G r:=by
 unfold oJ at h;simp only [Bool.and_eq_true,List.all_eq_true]at h;obtain⟨h1,h2,h3,h4,h5⟩:=h;unfold EQ at h5;simp only [Bool.and_eq_true]at h5;exact⟨h1,h2,h3,h4,fun p hp=>b_i _ _ h5.1 p.1 (List.mem_map.2 ⟨p,hp,rfl⟩)⟩
theorem d_j (r:bK) (k:List UInt8):(∃p∈r.kids,p.1=k/\lJ r k=p.2)∨ ((∀p∈r.kids,p.1≠k)/\lJ r k=r.other):=by
 unfold lJ;cases h:r.kids.find? (fun p=>decide (p.1=k))with
 | none=>
   rw [List.find?_eq_none]at h;exact .inr ⟨fun p hp=>by simpa using h p hp,rfl⟩
 | some p=>
   exact .inl ⟨p,List.mem_of_find?_eq_some h,by simpa using List.find?_some h,rfl⟩
theorem d_k {r:bK} {k:List UInt8} (h:∀p∈r.kids,p.1≠k):lJ r k=r.other:=by
 rcases d_j r k with⟨p,hp,he, -⟩ | ⟨-,he⟩
 . exact absurd he (h p hp)
 exact he
theorem o_H {r:bK} (h:d_G r) (k:List UInt8):yQ true (lJ r k)=true:=by
 rcases d_j r k with⟨p,hp, -,he⟩ | ⟨-,he⟩
 . rw [he];exact h.acts p hp
 rw [he];exact h.other
theorem m_m {a:CZ} (h:yQ false a=true):yQ true a=true:=by
 unfold yQ at h⊢;split at h
 . rename_i h4;rw [if_pos h4];exact h
 rename_i h4
 rw [if_neg h4];split at h
 . simp at h
 rename_i h3
 rw [if_neg h3];exact h
theorem b_Y {r:bK} (h:d_G r) (n:aX):yQ true (eQ r n)=true:=by
 unfold eQ;split
 . exact m_m h.text
 exact o_H h _
theorem b_Z {a:CZ} (h:yQ true a=true) (h4:a.1=4):tV a.2=true:=by
 unfold yQ at h;rwa [if_pos h4]at h
theorem e_B {t:List UInt8} (h:tV t=true):t≠ []/\d_v t=true:=by
 unfold tV at h;simpa using h
theorem l_c {t:List UInt8} (h:tV t=true):dQ (gX t)=0:=by
 obtain⟨h1,h2⟩:=e_B h;unfold gX;rw [if_neg h1];refine qQ.2 ⟨D4.2 ⟨?_,fun h=>(by cases h),fun _=>rfl,by decide⟩,by simp⟩;unfold uQ;rw [if_neg P6];have hk:f_u E8=true:=P9
 have hl:leB E8 []=false:=P9
 simp [zY,hk,h2,hl]
theorem c_J {t:List UInt8}:dZ (gX t)=t:=by
 unfold gX dZ;by_cases h:t= []
 . simp [h,b8,dJ,f_s]
 simp [h,b8,dJ,f_s]
theorem c_0 {r:bK} (h:d_G r) (h0:r.fill≠0) (h1:r.fill≠1):r.fill=2/\tV r.fillT=true:=by
 have:=h.fill;unfold b_X at this;simp [h0,h1]at this;exact this
theorem k_4 {s:b5} {k:aX} (hs:eJ s=0) (hf:(eV s k).1≠0):i_p (cJ s (dZ k)) (aY k) (eV s k):=by
 have hF:=B3 (AZ hs _ (IQ s (dZ k))).1;rcases oV s k with h | ⟨c,j,hk,h1,h6,hj,he,e,h4,f⟩
 . rw [h]at hf;exact absurd rfl hf
 rw [he];generalize cJ s (dZ k)=r at hF hj⊢
 constructor
 . intro h3
   have g:(c:Int)=3:=h3;obtain rfl:c=3:=P2
   have a:gV r (aY k) 3=j:=hj;refine l_c (b_Z (b_Y hF _) ?_);unfold gV at a;rw [if_neg P9]at a;rcases jV (D2 r (aY k) 3) (aY k).length with⟨i,hi,hp, -,hx⟩ | ⟨-,hx⟩
   . rw [hx]at a
     have:i=j:=P2
     subst this;have:decide ((eQ r (cY (aY k) i)).1=4)=true:=hp
     simpa using this
   rw [hx]at a;omega
 intro h6 d;have l:(c:Int)=6:=h6;obtain rfl:c=6:=P2
 have b:gV r (aY k) 6=j:=hj;rw [AY]at b;split at b
 . rename_i h;exact l_c (c_0 hF h.2 d).2
 omega
theorem m_n {s:b5} {r:bK} (hr:r∈rJ s) {p:yY} (hp:p∈r.kids):p.1∈M4 s:=by
 unfold M4;refine List.mem_append_left _ (List.mem_flatMap.2 ⟨r,hr, ?_⟩);unfold iY;exact List.mem_append_right _ (List.mem_flatMap.2 ⟨p,hp,by simp⟩)
theorem m_o (s:b5): []∈M4 s:=by unfold M4;simp
theorem d_l {s:b5} {r:bK} {n:List UInt8} (h:zK s r n=true) (h4:(lJ r n).1=4):(lJ r (lJ r n).2).1=1/\(lJ (cJ s (lJ r n).2) n).1=1:=by
 unfold zK at h;simpa [h4]using h
theorem g_2 {s:b5} {r:bK} (hs:eJ s=0) (hr:r∈rJ s) {x:aX} (h4:(eQ r x).1=4):(lJ r (eQ r x).2).1=1/\(eQ (cJ s (eQ r x).2) x).1=1:=by
 obtain⟨hf,b, -⟩:=AZ hs r hr;have hF:=B3 hf;unfold BX at b;simp only [Bool.and_eq_true,List.all_eq_true]at b;obtain⟨h1,h2, -⟩:=b
 cases hl:b8 x with
 | true=>
   have e:∀q:bK,eQ q x=q.text:=fun q=>by unfold eQ;rw [if_pos hl]
   rw [e]at h4⊢;rw [e];simpa [h4]using h1
 | false=>
   have e:∀q:bK,eQ q x=lJ q (dZ x):=fun q=>by unfold eQ;rw [hl];rfl
   rw [e]at h4⊢;rw [e];generalize dZ x=n at h4⊢
   by_cases hn:n∈M4 s
   . exact d_l (h2 n hn) h4
   have a:∀q∈rJ s,lJ q n=q.other/\lJ q []=q.other:=fun q hq=>by
    refine⟨d_k fun p hp e=>hn (by rw [<- e];exact m_n hq hp),d_k fun p hp e=> ?_⟩;have:=(B3 (AZ hs q hq).1).names p hp;rw [e]at this;exact absurd rfl (e_B this).1
   have h3:(lJ r []).1=4:=by rw [(a r hr).2, <- (a r hr).1];exact h4
   have h5:=d_l (h2 [] (m_o s)) h3;rw [(a r hr).2]at h5;rw [(a r hr).1];refine⟨h5.1, ?_⟩;rw [(a _ (IQ s _)).1, <- (a _ (IQ s _)).2];exact h5.2
theorem m_p {s:b5} {r:bK} (hs:eJ s=0) (hr:r∈rJ s) (h0:r.fill≠0):(eQ r (if r.fill=1 then .mk true [] [] [] else gX r.fillT)).1=1:=by
 obtain⟨hf,a, -⟩:=AZ hs r hr;have hF:=B3 hf;unfold BX at a;simp only [Bool.and_eq_true]at a;obtain⟨-, -,h3⟩:=a
 by_cases h1:r.fill=1
 . rw [if_pos h1]at h3⊢
   unfold eQ;simpa [b8]using h3
 rw [if_neg h1]at h3⊢;rw [if_pos (c_0 hF h0 h1).1]at h3;unfold eQ;rw [c_I,c_J];simpa using h3
theorem g_3 {α :Type} {q: α ->Bool}:∀ {l:List α} {x: α},x∈l.takeWhile q ->q x=true
 | [],x,h=>by cases h
 | y ::l,x,h=>by
   rw [List.takeWhile_cons]at h;split at h
   . rename_i hy
     rcases OJ h with rfl | h
     . exact hy
     exact g_3 h
   cases h
theorem f_y (r:bK) (x:aX) (L:List aX):eQ r (setKids x L)=eQ r x:=by cases x;rfl
theorem M5 (x:aX) (L:List aX):dZ (setKids x L)=dZ x:=by cases x;rfl
theorem c_1 {r:bK} {ks:List aX} {j:Nat} (hj:j < ks.length) (h:gV r ks 3=j):(eQ r ks[j]).1=4/\1 <= j7 r ks 3/\∀x∈ (ks.drop j).take (j7 r ks 3),eQ r x=eQ r ks[j]:=by
 have h4:(eQ r ks[j]).1=4:=by
  have h2:=h;unfold gV at h2;rw [if_neg P9]at h2;rcases jV (D2 r ks 3) ks.length with⟨i,hi,hp, -,hx⟩ | ⟨-,hx⟩
  . rw [hx]at h2
    have:i=j:=P2
    subst this;have:decide ((eQ r (cY ks i)).1=4)=true:=hp
    rw [kid_at hi]at this;simpa using this
  rw [hx]at h2;omega
 refine⟨h4, ?_, ?_⟩
 . unfold j7 b_C;rw [if_pos rfl];omega
 unfold j7;rw [if_pos rfl,h];unfold b_C;simp only [O0];have hg:(m9 r ks).getD j (0, [])=eQ r ks[j]:=t_q
 simp only [hg];intro x hx;rw [NX hj,Nat.add_comm,List.take_succ_cons]at hx;rcases OJ hx with rfl | hx
 . rfl
 have e:(m9 r ks).drop (j+1)=m9 r (ks.drop (j+1)):=by simp [List.map_drop]
 rw [e]at hx;have:eQ r x∈ ((m9 r (ks.drop (j+1))).takeWhile fun a=>decide (a=eQ r ks[j])):=by
  have hpre:=List.takeWhile_prefix (fun a=>decide (a=eQ r ks[j])) (l:=m9 r (ks.drop (j+1)));rw [List.prefix_iff_eq_take]at hpre;rw [hpre, <- List.map_take];exact List.mem_map.2 ⟨x,hx,rfl⟩
 simpa using g_3 this
theorem m_q {r:bK} {ks:List aX} {j:Nat} (h:gV r ks 2=j):j < ks.length/\(eQ r (cY ks j)).1=3:=by
 unfold gV at h;rw [if_neg P9]at h;rcases jV (D2 r ks 2) ks.length with⟨k,hk,hp, -,he⟩ | ⟨-,he⟩
 . rw [he]at h
   have:k=j:=P2
   subst this;have h2:decide ((eQ r (cY ks k)).1=3)=true:=hp
   exact⟨hk,by simpa using h2⟩
 rw [he]at h;omega
theorem e_C {ks:List aX} {j:Nat} (hj:j < ks.length):ks=ks.take j ++ ks[j]::ks.drop (j+1):=by
 rw [<- List.drop_eq_getElem_cons hj,List.take_append_drop]
theorem i_r (x y:Int) (a b:List Int):g9 (x::a) (y::b)=if x=y then 1+g9 a b else 0:=by
 conv=>lhs;unfold g9
theorem b_j:∀ (p a b:List Int),g9 (p ++ a) (p ++ b)=p.length+g9 a b
 | [],a,b=>by simp
 | x::p,a,b=>by
   rw [List.cons_append,List.cons_append,i_r,if_pos rfl,b_j p a b];simp;omega
theorem k_5 (p a b:List Int):kJ (p ++ a) (p ++ b)=kJ a b:=by
 unfold kJ;rw [b_j];simp
theorem c_2 (p b:List Int) (k:Nat) (d:Int):(p ++ b).getD (p.length+k) d=b.getD k d:=by
 simp [List.getD,OX]
theorem m_r (p a b:List Int):F6 (p ++ a) (p ++ b)=F6 a b:=by
 unfold F6;rw [b_j,c_2,c_2];simp only [NZ];rw [show decide (p.length+g9 a b+1=p.length+a.length)=decide (g9 a b+1=a.length)from decide_eq_decide.2 P2,show decide (p.length+g9 a b < p.length+b.length)=decide (g9 a b < b.length)from decide_eq_decide.2 P2]
theorem a_l {p a b:List Int} (ha:a≠ []):cZ (p ++ a) (p ++ b)=cZ a b:=by
 unfold cZ;rw [if_neg t_v,if_neg ha,k_5,m_r]
 simp
theorem e_D (p b:List Int) (k:Nat) (d:Int):fJ (p ++ b) (p.length+k) d=p ++ fJ b k d:=by
 unfold fJ;rw [c_2,List.set_append_right _ _ P2]
 simp
theorem J8 {p a b:List Int} (ha:a≠ []):fX (p ++ b) (p ++ a)=p ++ fX b a:=by
 unfold fX;rw [a_l ha];split
 . rfl
 have:0 < a.length:=List.length_pos_iff.2 ha;rw [NZ,show p.length+a.length - 1=p.length+(a.length - 1)by omega,e_D]
theorem a_E (a b:List Int):bX (a ++ b)=(bX a && bX b):=by simp [bX]
theorem g_4 {p a:List Int} (ha:a≠ []):jK (p ++ a)=jK a:=by
 rcases List.eq_nil_or_concat a with h | ⟨r,y,rfl⟩
 . exact absurd h ha
 rw [List.concat_eq_append, <- List.append_assoc,AV,AV]
def C9.under (o:C9) (p:List Int):C9:={ o with path:=p ++ o.path,dest:=if o.kind=5 then p ++ o.dest else o.dest }
theorem a_F {p b:List Int} {o:C9} (hp:bX p=true) (ha:o.path≠ []) (hd:o.kind=5 ->o.dest≠ []):nJ (p ++ b) (o.under p)=(nJ b o).map (p ++ ·):=by
 unfold nJ C9.under;have c:0 < o.path.length:=List.length_pos_iff.2 ha
 have e1:p.length+o.path.length - 1=p.length+(o.path.length - 1):=P2
 simp only [a_E,hp,Bool.true_and];have a:bX (if o.kind=5 then p ++ o.dest else o.dest)=bX o.dest:=by
  split
  . rw [a_E,hp];rfl
  rfl
 rw [a];split
 . rfl
 rw [if_neg t_v];simp only [a_l ha,J8 ha,g_4 ha,NZ,e1,e_D,c_2];split
 . rfl
 split
 . split
   . rfl
   split <;> rfl
 split
 . split
   . rfl
   split
   . rfl
   split <;> rfl
 split
 . split
   . rfl
   split <;> rfl
 split
 . rename_i h5
   split
   . show some _=some _
     rw [show p.length+o.path.length=p.length+o.path.length from rfl,List.drop_append,List.drop_eq_nil_of_le P2,show p.length+o.path.length - p.length=o.path.length by omega]
     simp
   split <;> (rw [J8 (hd h5)];rfl)
 rfl
theorem M6 {p q a:List Int} (ha:a≠ []) (hq:¬p <+:q):cZ (p ++ a) q=0:=by
 have c :g9 (p ++ a) q < p.length:=by
  rcases Nat.lt_or_ge (g9 (p ++ a) q) p.length with h | h
  . exact h
  exfalso
  refine hq ?_;clear hq;induction p generalizing q with
  | nil=>exact List.nil_prefix
  | cons x p ih=>
    cases q with
    | nil=>simp [g9]at h
    | cons y q=>
      rw [List.cons_append]at h;unfold g9 at h;split at h
      . rename_i e
        rw [List.cons_prefix_cons];exact⟨e,ih (by simp at h;omega)⟩
      simp at h
 unfold cZ;rw [if_neg t_v,if_neg]
 . have h1:kJ (p ++ a) q=false:=by
    unfold kJ;rw [show decide (g9 (p ++ a) q=(p ++ a).length)=false from O3 P8]
    simp
   have b:0 < a.length:=List.length_pos_iff.2 ha;have h2:F6 (p ++ a) q=false:=by
    unfold F6;rw [show decide (g9 (p ++ a) q+1=(p ++ a).length)=false from O3 P8]
    simp
   rw [h1,h2];rfl
 intro e;exact hq ⟨a,e⟩
theorem d_m {p q:List Int} {o:C9} (hs:bX q=true) (hp:bX p=true) (ho:bX o.path=true) (a:bX o.dest=true) (b:D3 o.pos=false) (ha:o.path≠ []) (hd:o.kind=5 ->o.dest≠ []) (h3:o.kind=3 ->jK o.path≠0) (hq:¬p <+:q):
 nJ q (o.under p)=some q:=by
 unfold nJ C9.under;have c:bX (if o.kind=5 then p ++ o.dest else o.dest)=true:=by
  split
  . rw [a_E,hp,a];rfl
  exact a
 simp only [a_E,hp,ho,c,hs,b,Bool.true_and,Bool.not_false,Bool.not_true,Bool.false_eq_true,if_false,M6 ha hq,g_4 ha];rw [if_neg t_v];unfold fX;simp only [M6 ha hq,if_true];split
 . rfl
 split
 . simp
 split
 . rename_i h;rw [if_neg (h3 h)];simp
 split
 . simp
 split
 . rename_i h5
   simp [M6 (hd h5) hq]
 rfl
end Go.Proofs.YtmadpclcmjahoaaGreatDoor
