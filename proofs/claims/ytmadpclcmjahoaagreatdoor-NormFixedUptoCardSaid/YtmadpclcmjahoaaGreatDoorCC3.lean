/- Parts of the proof: CC3. -/
import Derived.Test.YtmadpclcmjahoaaGreatDoorCC2
import Derived.OpenShut
set_option linter.unusedVariables false
set_option linter.unusedSimpArgs false
set_option maxHeartbeats 8000000
set_option maxRecDepth 100000
namespace Go.Proofs.YtmadpclcmjahoaaGreatDoor
open Go.RowKit Go.Redl
theorem lZ.form {w:World} {n:aX} {lo hi:Nat} {cs:List Value} (h:lZ w n lo hi cs):∃l a1 n1 c1 a2 n2 c2 a3 n3 c3,cs= [.bool l, .slice a1 n1 c1, .slice a2 n2 c2, .slice a3 n3 c3]:=(lZ.q (ok:=fun _=>True) (fun _ _ _=>trivial) h).form
theorem rV {w:World} {ks:List aX} {lo hi g o:Nat} {css:List Value} {u:Value} (h:gJ w ks lo hi css) (hg:g < lo):gJ (w.setCell (g,o) u) ks lo hi css:=
 gJ.keep R9 (fun b hb _ _=>Below.heap_setCell w (g,o) u b (by show b≠g;omega)) h
def r_h (W:World) (n:aX) (e:Ending) (w':World):Prop:= ∃cs,e= .returned (.agg cs.toArray)/\lZ w' n W w' cs/\Below W W w'
def uY (w:World) (M:Nat):aX ->List Value ->Prop
 | .mk l ps t ks,cs=>∃ (ap:Option Addr) (cp:Nat) (at_:Option Addr) (ct:Nat) (ak:Option Addr) (ck:Nat) (css:List Value),cs= [.bool l, .slice ap ps.length cp, .slice at_ t.length ct, .slice ak ks.length ck]/\
     RowQ w (fun b=>M <= b/\(Value.slice ak ks.length ck).ownBlock≠some b/\(Value.slice at_ t.length ct).ownBlock≠some b) 2 ap ps.length cp (cK ps)/\w.ownsRow M 21 1 (at_,t.length,ct) t.length (t.map (Value.int .i32))/\(∀z∈t,(Lit.int .i32 z).wf=true)/\
     w.ownsRow M 35 4 (ak,ks.length,ck) ks.length css/\dK w (fun b=>M <= b/\(Value.slice ak ks.length ck).ownBlock≠some b/\(Value.slice at_ t.length ct).ownBlock≠some b) ks css/\(∀b,(Value.slice at_ t.length ct).ownBlock=some b ->(Value.slice ak ks.length ck).ownBlock≠some b)
def s_f (W:World) (n:aX) (e:Ending) (w':World):Prop:= ∃cs,e= .returned (.agg cs.toArray)/\uY w' W n cs/\Below W W w'
theorem j_e {w1 w3:World} {b1 b3 b4 e e' e'' sz sz' sz'' n n' n'' c M:Nat} {a:Option Addr} {u u2:Value} {cs cs' cs'':List Value} {w4:World} (h1:w1.ownsRow b1 e sz (a,n,c) n cs) (ho:∀u∈cs,u.oneCell'=true) (hb:Below w1 w1 w3) (h3:w3.ownsRow b3 e' sz' u n' cs') (g:w1.heap.size <= b3) (h4:w4.ownsRow b4 e'' sz'' u2 n'' cs'') (f:w1.heap.size <= b4) (hM:M <= b1):
 RowQ w3 (fun b=>M <= b/\u.ownBlock≠some b/\u2.ownBlock≠some b) sz a n c cs:=by
 obtain⟨a',c',hv,hr⟩:=RowQ.of_own h1 ho;injection hv with e1 e2 e3
 subst e1;subst e3;refine hr.keep hb.size (fun b _ d=>hb.block b d) (fun b hk d=>⟨aJ hM (h1.lt b hk).1,fun hu=> ?_,fun hu=> ?_⟩)
 . have:=(h3.lt b hu).1
   omega
 have:=(h4.lt b hu).1
 omega
theorem n_o {w:World} {M:Nat} {r r2:Option Nat} {sz n cap:Nat} {a:Option Addr} {cs:List Value} (h:RowQ w (fun b=>M <= b/\r≠some b/\r2≠some b) sz a n cap cs):RowQ w (fun b=>M <= b/\b < w.heap.size/\r≠some b/\r2≠some b) sz a n cap cs:=h.keep (a8) (fun _ _ _=>rfl) (fun b hb c=>⟨hb.1,c,hb.2⟩)
theorem CY {w:World} {M e sz n g o:Nat} {v u:Value} {cs:List Value} (h:w.ownsRow M e sz v n cs) (a:v.ownBlock≠some g):(w.setCell (g,o) u).ownsRow M e sz v n cs:=by
 refine⟨h.1, ?_⟩;rcases h.2 with hn | ⟨k,cap,cur,hv,hb,hg,hr⟩
 . exact .inl hn
 refine .inr ⟨k,cap,cur,hv,hb, ?_,hr⟩;rw [Below.heap_setCell w (g,o) u k (by show k≠g;intro e;exact a (by rw [hv, <- e];rfl))];exact hg
def s_g (W:World) (n:aX) (e:Ending) (w':World):Prop:= ∃cs,e= .returned (.agg cs.toArray)/\uY w' W n cs/\lZ w' n W w' cs/\Below W W w'
theorem g_x (m:Nat):∀ (n:aX) (v:Value) (W:World),n.wt <= m ->n.wt <= 100000000 ->bY W W n v ->Calls Tryz.prog 61 #[v] W (s_g W n):=by
 induction m with
 | zero=>intro n v W hm;have:=J4 n;omega
 | succ m IH=>
   intro n v W hm G hv;obtain⟨l,ps,t,ks⟩:=n;have J7:fY ks <= m:=s_W
   obtain⟨ap,cp,at_,ct,ak,ck,css,rfl,hp,ht,hk,I⟩:=hv.open;have K2:ps.length <= 100000000:=by have:=E6 ps;simp only [aX.wt]at G;omega
   have K3:t.length <= 100000000:=by simp only [aX.wt]at G;omega
   have K4:ks.length <= 100000000:=by have:=i7 ks;simp only [aX.wt]at G;omega
   have J8:fY ks <= 100000000:=by simp only [aX.wt]at G;omega
   obtain⟨⟨at2,ct2,K5,J9⟩,j0⟩:=ht;injection K5 with e1 e2 e3
   subst e1;subst e3;have hA:=(bV.fresh W l (ap,ps.length,cp) (at_,t.length,ct) (ak,ks.length,ck)).alloc (Obj.cells #[false,(),(),()] 35);have hB:=rZ W (Obj.cells #[l,(ap,ps.length,cp),(at_,t.length,ct),(ak,ks.length,ck)] 35) false () () ();have U:Below W W ((W.alloc (Obj.cells #[l,(ap,ps.length,cp),(at_,t.length,ct),(ak,ks.length,ck)] 35)).alloc (Obj.cells #[false,(),(),()] 35)):=((a7).alloc (a8) _).alloc P6 _;have j1:((W.alloc (Obj.cells #[l,(ap,ps.length,cp),(at_,t.length,ct),(ak,ks.length,ck)] 35)).alloc (Obj.cells #[false,(),(),()] 35)).heap.size=W.heap.size+2:=P6
   have HI:=a6 (fun(i:Nat) (h:i < ks.length) (v:Value) (W2:World) (q:bY W2 W2 ks[i] v)=>(IH ks[i] v W2 (aJ (jJ (NY h)) J7) (aJ (jJ (NY h)) J8) q).mono (R':=r_h W2 ks[i]) fun e w' ⟨cs,h1,_,h3,h4⟩=>⟨cs,h1,h3,h4⟩);have Hp:=a6 (hp.keep U (a8));have Ht:=a6 (J9.keep U (a8));have Hk:=a6 (hk.keep U (a8));have j2:=a6 (eX.keep U (a8) _ _ I)
   have X:=a6 (show ∀u∈t.map (Value.int .i32),u.oneCell'=true by intro u hu;obtain⟨z, -,rfl⟩:=OV hu;rfl);have H3:=a6 I.one
   have j3:=a6 I;have j4:=a6 j0;have j5:=a6 U;have HA:=a6 hA;have HB:=a6 hB;have B:=a6 j1
   clear IH hm J7 G hv hp J9 hk I j0 U hA hB J8 j1;go_enter Tryz.func61,Tryz.ntmps61;go_upto_region 1 with fail;obtain⟨w0,j6⟩:∃w0,w0=(W.alloc (Obj.cells #[l,(ap,ps.length,cp),(at_,t.length,ct),(ak,ks.length,ck)] 35)).alloc (Obj.cells #[false,(),(),()] 35):=⟨_,rfl⟩;rw [<- j6]at Hp Ht Hk j2 j5 HA HB B⊢;clear j6;obtain⟨x0,x1,x2,x3,⟨f0,f1,f2,f3⟩,K6⟩:=HA.o.facts
   go_cut [] (fun wx=>∃pa pc ta tc ka kc,bV wx W l (.slice pa ps.length pc) (.slice ta t.length tc) (.slice ka ks.length kc)/\bV wx (W+1) false () () ()/\
    RowQ wx (fun b=>W.heap.size+2 <= b/\(Value.slice ka ks.length kc).ownBlock≠some b/\(Value.slice ta t.length tc).ownBlock≠some b) 2 pa ps.length pc (cK ps)/\wx.ownsRow (W+2) 21 1 (.slice ta t.length tc) t.length (t.map (Value.int .i32))/\(∀b,(Value.slice ta t.length tc).ownBlock=some b ->(Value.slice ka ks.length kc).ownBlock≠some b)/\
    wx.ownsRow (W+2) 35 4 (.slice ka ks.length kc) ks.length css/\Below W W wx)
   case first=>
    go_region_law (first
     | (refine bQ rfl 113 _ _ rfl P5 [Value.slice ap ps.length cp] ?_ _ (L6 W ps.length ap cp _ _ (Hp.o.keep ?_ (a8)) ?_ K2) ?_
        . go_simp
        . exact(a7).drew
        . show W.heap.size <= w0.heap.size;rw [B.o];omega
        rintro e w1 ⟨v1,rfl,f,d⟩;obtain⟨pa,pc,rfl, -⟩:=eK f (DX _);refine⟨_,rfl, ?_⟩;have x:=a6 (((Below.refl w0 w0).drew).trans d);have h5:=a6 f
        have hA1:=HA.o.keep (x.o.mono XK);obtain⟨y0,y1,y2,y3,⟨k0,k1,k2,k3⟩,h6⟩:=hA1.facts;clear d f hA1)
     | (refine bQ rfl 114 _ _ rfl P5 [Value.slice at_ t.length ct] ?_ _ (d_0 W t.length at_ ct _ _ (Ht.o.keep (x.o.mono ?_) (a8)) ?_ K3) ?_
        . go_simp
        . rw [B.o];omega
        . have:=x.o.size;rw [B.o]at this;omega
        rintro e w2 ⟨v2,rfl,f,d⟩;obtain⟨ta,tc,rfl, -⟩:=eK f X.o;refine⟨_,rfl, ?_⟩;have y:=a6 (x.o.trans (d.mono x.o.size));have J:=a6 f;have C:=a6 d
        have hA1:=HA.o.keep (y.o.mono XK);obtain⟨z0,z1,z2,z3,⟨g0,g1,g2,g3⟩,H4⟩:=hA1.facts;clear d f hA1)
     | (refine bQ rfl 115 _ _ rfl P5 [Value.slice ak ks.length ck] ?_ _ (j_d W ks.length ak ck _ _ (Hk.o.keep (y.o.mono ?_) (a8)) ?_ K4) ?_
        . go_simp
        . rw [B.o];omega
        . have:=y.o.size;rw [B.o]at this;omega
        rintro e w3 ⟨v3,rfl,f,d⟩;obtain⟨ka,kc,rfl, -⟩:=eK f H3.o;refine⟨_,rfl, ?_⟩;have K:=a6 (y.o.trans (d.mono y.o.size));have L:=a6 f;have R:=a6 d
        have hA1:=HA.o.keep (K.o.mono XK);obtain⟨t0,t1,t2,t3,⟨r0,r1,r2,r3⟩,K7⟩:=hA1.facts;have K8:=a6 hA1;clear d f hA1))
    all_goals
     go_wp2_with fail
     go_meet
     case rel=>
      have h7:W.heap.size+2 <= w0.heap.size:=XK
      have D:=j_e (M:=W.heap.size+2) h5.o (DX _) (C.o.trans (R.o.mono C.o.size)) L.o C.o.size J.o (a8) h7;have K9:W.heap.size+2 <= w2.heap.size:=aJ h7 y.o.size;have H5:∀b,(Value.slice ta t.length tc).ownBlock=some b ->(Value.slice ka ks.length kc).ownBlock≠some b:=fun b h1 h2=>by have:=(J.o.lt b h1).2;have:=(L.o.lt b h2).1;omega
      have V:¬ (W.heap.size+2 <= W.heap.size/\(Value.slice ka ks.length kc).ownBlock≠some W.heap.size/\(Value.slice ta t.length tc).ownBlock≠some W.heap.size):=fun h=>by omega
      have k:∀ {w:World} {e sz n o:Nat} {v u:Value} {cs:List Value},w.ownsRow (W+2) e sz v n cs ->(w.setCell (W,o) u).ownsRow (W+2) e sz v n cs:=fun h=>ownsRow_setCell_below (a:=⟨W,_,none⟩) h (by show W.heap.size < _;omega) _
      refine⟨pa,pc,ta,tc,ka,kc, ?_, ?_, ?_, ?_,H5, ?_, ?_⟩
      . exact((K8.o.s1 _).s2 _).s3 _
      . exact(((HB.o.keep (K.o.mono XK)).set P2).set P2).set P2
      . exact b9 (b9 (b9 D V) V) V
      . exact k (k (k (q9 (kQ J.o R.o) (aJ h7 x.o.size))))
      . exact k (k (k (q9 L.o K9)))
      exact((((j5.o.trans (K.o.mono XK)).setCell (p:=(P0 W 1)) (a8) _).setCell (p:=(P0 W 2)) (a8) _).setCell (p:=(P0 W 3)) (a8) _)
   case rest=>
    obtain⟨pa,pc,ta,tc,ka,kc,hA,hB,D,H,H5,f,d⟩:=hcut;obtain⟨y0,y1,y2,y3, -,h6⟩:=hA.facts;have h8:=a6 H5;have h9:=a6 (show ∀g,(Value.slice ka ks.length kc).ownBlock=some g ->g < wc.heap.size from fun g hg=>(f.lt g hg).2);have k4:=a6 (show W.heap.size+2 <= wc.heap.size from hB.facts.2.2.2.2.2);have Hi:=a6 (show _/\_/\_/\_/\_/\_ from⟨hA,hB,D,H,f,d⟩);clear hA hB D H H5 f d x0 x1 x2 x3 f0 f1 f2 f3 K6 HA HB Hp Ht Hk;go_wp2_with fail;clear y0 y1 y2 y3 h6;go_loopg [20] ks.length (fun g i wr=>∃ (j:Nat) (csN:List Value),i= .int .i64 j/\j+g=ks.length/\bV wr W l (pa,ps.length,pc) (ta,t.length,tc) (ka,ks.length,kc)/\bV wr (W+1) false () () ()/\
     RowQ wr (fun b=>W.heap.size+2 <= b/\b < wc.heap.size/\(Value.slice ka ks.length kc).ownBlock≠some b/\(Value.slice ta t.length tc).ownBlock≠some b) 2 pa ps.length pc (cK ps)/\(wr.ownsRow (W+2) 21 1 (ta,t.length,tc) t.length (t.map (Value.int .i32))/\∀b,(Value.slice ta t.length tc).ownBlock=some b ->b < wc.heap.size)/\
     wr.ownsRow (W+2) 35 4 (ka,ks.length,kc) ks.length (csN ++ css.drop (j * 4))/\gJ wr (ks.take j) wc wr csN/\Below W W wr)
    case atStart=>
     obtain⟨hA,hB,D,H,f,d⟩:=Hi.o;exact⟨0, [],rfl,by omega,hA,hB,n_o D,⟨H,fun b hb=>(H.lt b hb).2⟩,by simpa using f,by rw [List.take_zero];unfold gJ;exact⟨rfl,a8⟩,d⟩
    case round=>
     obtain⟨j,csN,rfl,hg,hA,hB,D,H,f,E,d⟩:=hrel;obtain⟨y0,y1,y2,y3,⟨p0,p1,p2,p3⟩,h6⟩:=hA.facts;obtain⟨z0,z1,z2,z3,⟨q0,q1,q2,q3⟩,Q3⟩:=hB.facts;have j7:=dK.len' (gJ.q (ok:=fun _=>True) (fun _ _ _=>trivial) E);have Q4:=E.le;have Y:=j2.o.len;have k5:=a6 hA;have k6:=a6 hB;have J0:=a6 D;have N:=a6 H;have A:=a6 f;have Z:=a6 E;have H9:=a6 d
     clear hA hB D H E;by_cases O:j < ks.length
     . obtain ⟨c,hc,h0⟩:=j3.o.at_ j O
       have J1:=dY.keep d (a8) _ _ hc;obtain⟨l1,a1,n1,c1,a2,n2,c2,a3,n3,c3,rfl⟩:=J1.form;have J2:csN.length=j * 4:=by rw [j7,List.length_take,O8 P2]
       have k7:j * 4+4 <= css.length:=by rw [Y];omega
       obtain⟨g,rfl,Q5⟩:=JZ A.o (by
        intro e;have:=congrArg List.length e
        simp only [NZ,List.length_drop,List.length_nil]at this;omega)
       have H6:g < wr.heap.size:=(A.o.lt g rfl).2;have H0:∀i,i < 4 ->(csN ++ css.drop (j * 4))[j * 4+i]? = [Value.bool l1, .slice a1 n1 c1, .slice a2 n2 c2, .slice a3 n3 c3][i]? :=by
        intro i hi;rw [OX P2,List.getElem?_drop,J2,show j * 4+(j * 4+i - j * 4)=j * 4+i by omega];exact h0 i hi
       have k0:=G4 A.o _ _ (H0 0 P2);have k1:=G4 A.o _ _ (H0 1 P2);have k2:=G4 A.o _ _ (H0 2 P2);have k3:=G4 A.o _ _ (H0 3 P2);have H1:∃x0 x1 x2 x3,css.drop (j * 4)=x0::x1::x2::x3::css.drop ((j+1) * 4):=by
        refine⟨css[j * 4],css[j * 4+1],css[j * 4+2],css[j * 4+3], ?_⟩;rw [NX P2,NX P2,NX P2,NX P2];rw [show (j+1) * 4=j * 4+1+1+1+1 by omega]
       have Q2:(j:Int) < ks.length:=P2
       have HC:=a6 (fun(W':World) (j8:Below wr wr W')=>HI.o j O (.agg #[l1,(a1,n1,c1),(a2,n2,c2),(a3,n3,c3)]) W' ⟨_,rfl,dY.keep (j8.mono d.size) (aJ d.size j8.size) _ _ J1⟩);have J3:=a6 H1;have k8:=a6 J2
       have hW:=d.size;have S:g≠W.heap.size:=P2
       clear hc J1 h0 H0 H1 J2 f d Hi j7 Y k7;simp only [Nat.add_zero]at k0;go_wp2_with fail
       go_region_law (first
        | (refine bQ rfl 61 _ _ rfl P5 [Value.agg #[l1,(a1,n1,c1),(a2,n2,c2),(a3,n3,c3)]] ?_ _ (HC.o _ ?_) ?_
           . go_simp
           . exact((a7).alloc (a8) _).drew
           rintro e w6 ⟨cs',rfl,P,H2⟩;obtain⟨m1,b1,o1,d1,b2,o2,d2,b3,o3,d3,rfl⟩:=P.form;refine⟨_,rfl, ?_⟩;have s:=a6 ((((Below.refl wr wr).alloc (a8) (Obj.cells #[l1,(a1,n1,c1),(a2,n2,c2),(a3,n3,c3)] 35)).drew).trans (H2.mono (by show wr.heap.size <= (wr.alloc _).heap.size;simp)));have H4:=k5.o.keep (s.o.mono P2);have r:=kQ A.o s.o;have r0:=r.frozenAt (j * 4);have r1:=r.frozenAt (j * 4+1);have r2:=r.frozenAt (j * 4+2);have r3:=r.frozenAt (j * 4+3)
           have Q6:=(r.lt g rfl).2;have k0':=(s.o.cell (p:=(g,j * 4)) H6).trans k0;have k1':=(s.o.cell (p:=(g,j * 4+1)) H6).trans k1;have k2':=(s.o.cell (p:=(g,j * 4+2)) H6).trans k2;have k3':=(s.o.cell (p:=(g,j * 4+3)) H6).trans k3
           obtain⟨s0,s1,s2,s3, -,K7⟩:=H4.facts;have k9:=a6 H4;have J5:=a6 r;have J6:=a6 P
           clear H4 r P H2))
       all_goals
        go_wp2_with fail
        go_roundg (gk - 1)
        case measure=>omega
        case rel=>
         have hz:(Value.slice g ks.length kc).ownBlock=some g:=by simp [Value.ownBlock]
         obtain⟨x0,x1,x2,x3,hdr⟩:=J3.o;have hs:=(((J5.o.stored (j * 4) m1).1.stored (j * 4+1) (b1,o1,d1)).1.stored (j * 4+2) (b2,o2,d2)).1.stored (j * 4+3) (b3,o3,d3) |>.1;rw [n_m k8.o hdr]at hs;have H7:¬ (W.heap.size+2 <= g/\g < wc.heap.size/\(Value.slice g ks.length kc).ownBlock≠some g/\(Value.slice ta t.length tc).ownBlock≠some g):=fun h=>h.2.2.1 hz
         have T:=h9.o g hz;have Q0:=gJ.keep (w':=w6) s.o.size (fun b _ _ O=>s.o.block b O) Z.o;have j9:=J0.o.keep (w':=w6) (ok':=fun b=>W.heap.size+2 <= b/\b < wc.heap.size/\(Value.slice g ks.length kc).ownBlock≠some b/\(Value.slice ta t.length tc).ownBlock≠some b) s.o.size (fun b _ O=>s.o.block b O) (fun b hb _=>hb);have K0:=kQ N.o.1 s.o;have H8:(Value.slice ta t.length tc).ownBlock≠some g:=fun e=>h8.o g e hz
         have Q1:=k6.o.keep (s.o.mono P2);have hsz:=s.o.size;have I:=rV (o:=j * 4+3) (u:= .slice b3 o3 d3) (rV (o:=j * 4+2) (u:= .slice b2 o2 d2) (rV (o:=j * 4+1) (u:= .slice b1 o1 d1) (rV (o:=j * 4) (u:= .bool m1) ((Q0.up P6).snoc J6.o) T) T) T) T;rw [<- List.take_succ_eq_append_getElem O]at I;refine⟨j+1,csN ++ [.bool m1, .slice b1 o1 d1, .slice b2 o2 d2, .slice b3 o3 d3],rfl,by omega, ?_, ?_, ?_, ?_,hs,I.up R9, ?_⟩
         . exact(((k9.o.set S.symm).set S.symm).set S.symm).set S.symm
         . exact(((Q1.set P2).set P2).set P2).set P2
         . exact b9 (b9 (b9 (b9 j9 H7) H7) H7) H7
         . exact⟨CY (CY (CY (CY K0 H8) H8) H8) H8,N.o.2⟩
         exact((((eZ H9.o s.o (a8)).setCell (p:=(g,j * 4)) W8 _).setCell (p:=(g,j * 4+1)) W8 _).setCell (p:=(g,j * 4+2)) W8 _).setCell (p:=(g,j * 4+3)) W8 _
     have Q7:decide ((j:Int) < ks.length)=false:=P8
     clear f d Hi;go_wp2_with fail;refine bodyPost_ret (v:= .agg #[l,(pa,ps.length,pc),(ta,t.length,tc),(ka,ks.length,kc)]) (by simp [results,Tryz.results61,go_sem,z0,z1,z2,z3]) rfl ?_;have hj:j=ks.length:=P2
     have Q:=A.o;have F:=Z.o;rw [hj,List.take_length]at F;rw [hj,List.drop_eq_nil_of_le P2,List.append_nil]at Q;have V:¬ (W.heap.size+2 <= W.heap.size+1/\W.heap.size+1 < wc.heap.size/\(Value.slice ka ks.length kc).ownBlock≠some (W.heap.size+1)/\(Value.slice ta t.length tc).ownBlock≠some (W.heap.size+1)):=fun h=>by omega
     have Q8:=k4.o;have k:∀ {w:World} {e sz n o:Nat} {v u:Value} {cs:List Value},w.ownsRow (W+2) e sz v n cs ->(w.setCell (W.heap.size+1,o) u).ownsRow (W+2) e sz v n cs:=fun h=>ownsRow_setCell_below (a:=⟨W.heap.size+1,_,none⟩) h (by show W.heap.size+1 < _;omega) _
     refine⟨[l,(pa,ps.length,pc),(ta,t.length,tc),(ka,ks.length,kc)],rfl, ?_, ?_, ?_⟩
     . unfold uY
       refine⟨pa,pc,ta,tc,ka,kc,csN,rfl, ?_, ?_,j4.o, ?_, ?_,h8.o⟩
       . exact(h_q J0.o V _ _ _ _).keep (a8) (fun _ _ _=>rfl) (fun b hb _=>⟨by omega,hb.2.2.1,hb.2.2.2⟩)
       . exact q9 (k (k (k (k N.o.1)))) P2
       . exact q9 (k (k (k (k Q)))) P2
       refine gJ.q (fun b hb Q9=>⟨by omega,fun e=> ?_,fun e=> ?_⟩) (rV (rV (rV (rV F P2) P2) P2) P2)
       . have:=h9.o b e;omega
       have:=N.o.2 b e;omega
     . unfold lZ
       have K1:=k (o:=3) (u:= .slice ka ks.length kc) (k (o:=2) (u:= .slice ta t.length tc) (k (o:=1) (u:= .slice pa ps.length pc) (k (o:=0) (u:= .bool l) N.o.1)));refine⟨wc,pa,pc,ta,tc,ka,kc,csN,by omega,rfl, ?_, ?_,j4.o, ?_,h9.o, ?_⟩
       . exact(h_q J0.o V _ _ _ _).keep (a8) (fun _ _ _=>rfl) (fun b hb _=>⟨by omega,hb.2.1,hb.2.2.1⟩)
       . obtain ⟨a',c',hv,hr⟩:=RowQ.of_own K1 X.o
         injection hv with e1 e2 e3
         subst e1;subst e3;exact hr.keep (a8) (fun _ _ _=>rfl) (fun b hk _=>⟨by have:=(N.o.1.lt b hk).1;omega,N.o.2 b hk,h8.o b hk⟩)
       . exact q9 (k (k (k (k Q)))) P2
       exact(rV (rV (rV (rV F P2) P2) P2) P2).up R9
     with_reducible exact l7 H9.o (Nat.le_succ _) _ _ _ _
theorem p_N (m:Nat) (n:aX) (v:Value) (W:World) (hm:n.wt <= m) (a:n.wt <= 100000000) (hv:bY W W n v):Calls Tryz.prog 61 #[v] W (r_h W n):=
 (g_x m n v W hm a hv).mono fun e w' ⟨cs,h1,_,h3,h4⟩=>⟨cs,h1,h3,h4⟩
theorem p_O (n:aX) (v:Value) (W:World) (a:n.wt <= 100000000) (hv:bY W W n v):Calls Tryz.prog 61 #[v] W (s_f W n):=
 (g_x n.wt n v W (a8) a hv).mono fun e w' ⟨cs,h1,h2,_,h4⟩=>⟨cs,h1,h2,h4⟩
theorem b_3 (m:Nat) (n:aX) (v:Value) (W:World) (hm:n.wt <= m) (a:n.wt <= 100000000) (hv:bY W W n v):Calls Tryz.prog 61 #[v] W (r_g W n):=
 (g_x m n v W hm a hv).mono fun e w' ⟨cs,h1,_,h3,h4⟩=>⟨cs,h1,lZ.q (fun b h _=>h) h3,h4⟩
theorem d_P {w:World} {i:Int} {p:List Int} {b off kb ko n c:Nat} (h:w.cell? (b,off+3)=some (.slice (some (kb,ko)) n c)):sZ w (i::p) b off=sZ w p kb (ko+i.toNat * 4):=by
 show (match w.cell? (b,off+3)with | some (.slice (some a) _ _)=>sZ w p a.block (a.off+i.toNat * 4) | _=>(b,off))=_
 rw [h]
theorem s_h (n m:aX) (p:List Int) (a:Option Addr) (cap:Nat) (b off B:Nat) (w:World) (hn:d_1 w B b off n) (hr:RowA w B 1 a p.length cap (p.map (Value.int .i64))) (v:l9 n p=some m):
 Calls Tryz.prog 60 #[.pointer (some (b,off)),(a,p.length,cap)] w (fun e w'=>e= .returned (.tuple #[.pointer (some ((sZ w p b off).1,(sZ w p b off).2)),OY])/\w=w'):=by
 have hm:p.length <= 9223372036854775807:=PQ
 obtain⟨R,hR⟩:∃R,R=sZ w p b off:=⟨_,rfl⟩;rw [<- hR];have HR:=a6 hR;have Hn:=a6 hn;have r:=a6 v
 clear hR hn v;go_enter Tryz.func60,Tryz.ntmps60;go_wp2_with fail
 go_loopg [0,10] p.length (fun g q i wr=>∃ (k b' off':Nat) (n':aX),q= .pointer (some (b',off'))/\i= .int .i64 k/\k+g=p.length/\Hid (l9 n' (p.drop k)=some m)/\Hid (sZ w (p.drop k) b' off'=R)/\d_1 w B b' off' n'/\wr=w)
 case atStart=>exact⟨0,b,off,n,rfl,rfl,by omega,r,(show _=R from HR.o.symm),Hn.o,rfl⟩
 case round=>
  obtain⟨k,b',off',n',rfl,rfl,hg,t,h,x,rfl⟩:=hrel;have I:=a6 x;obtain⟨l,a1,n1,c1,a2,n2,c2,a3,n3,c3,u,x0,x1,x2,x3⟩:=x;clear Hn HR r;by_cases o:k < p.length
  . have hd:p.drop k=p[k]::p.drop (k+1):=NX o
    have Hd:=a6 hd;obtain⟨pb,po,rfl,J,d⟩:=hr.int_at k o;have f:=d k o;rw [gK o]at f;clear d;generalize p[k]=i at f Hd;have H:(k:Int) < p.length:=P2
    clear hd;obtain⟨l',ps',t',ks'⟩:=n';have s:=u;unfold dY at s;obtain⟨ap,cp,at_,ct,ak,ck,css,D, -, -, -,hk,y⟩:=s;injection D with e0 e1;injection e1 with e1 e2;injection e2 with e2 e3;injection e3 with e3 e4
    injection e3 with f1 f2 f3
    subst f1;subst f2;subst f3;clear e0 e1 e2 e4 u;have c:=t.o
    rw [Hd.o]at c;simp only [l9,aY]at c;split at c
    . rename_i h0
      obtain⟨j,rfl⟩:∃j:Nat,i=j:=⟨i.toNat,by omega⟩;rw [O0]at c;by_cases hj:j < ks'.length
      . rw [NV hj]at c
        simp only at c;obtain⟨kb,ko,l1,b1,o1,d1,b2,o2,d2,b3,o3,d3,rfl,K,z,g0,g1,g2,g3⟩:=hk.kid_at y j hj;have E:=a6 (show d_1 wr B kb (ko+j * 4) ks'[j]from⟨l1,b1,o1,d1,b2,o2,d2,b3,o3,d3,z,g0,g1,g2,g3⟩);have A:Hid (sZ wr (p.drop (k+1)) kb (ko+j * 4)=R):=by
         show _=R
         rw [<- h.o,Hd.o,d_P x3,O0]
        have C:=a6 c;have F:decide ((j:Int) < 0)=false:=P6
        have L:(j:Int) < ks'.length:=P2
        have M:decide ((ks'.length:Int) <= j)=false:=P8
        clear z hk y t c h;go_wp2_with fail
        go_roundg (gk - 1)
        case measure=>omega
        case rel=>exact⟨k+1,kb,ko+j * 4,ks'[j],rfl,rfl,by omega,C,A,E.o,rfl⟩
      rw [List.getElem?_eq_none P2]at c
      cases c
    cases c
  have F:decide ((k:Int) < p.length)=false:=P8
  have G:Hid ((b',off')=R):=by
   show _=R
   rw [<- h.o,List.drop_eq_nil_of_le P2]
   rfl
  clear t h u;go_wp2_with fail;go_ret2;rw [<- G.o];exact⟨rfl,rfl⟩
theorem f_G (n:aX) (p:List Int) (v:Value) (pa:Option Addr) (pc:Nat) (W:World) (y:n.wt <= 100000000) (hv:bY W W n v) (hp:RowA W W 1 pa p.length pc (p.map (Value.int .i64))):
 Calls Tryz.prog 13 #[v,(pa,p.length,pc)] W (s_e W (l9 n p)):=by
 have j:=zJ p n;obtain⟨csn,rfl,hc⟩:=hv;obtain⟨l,a1,n1,c1,a2,n2,c2,a3,n3,c3,rfl⟩:=hc.form;have hA:=(bV.fresh W l (a1,n1,c1) (a2,n2,c2) (a3,n3,c3)).alloc (Obj.cells #[false,(),(),()] 35);have hB:=rZ W (Obj.cells #[l,(a1,n1,c1),(a2,n2,c2),(a3,n3,c3)] 35) false () () ();have h:Below W W ((W.alloc (Obj.cells #[l,(a1,n1,c1),(a2,n2,c2),(a3,n3,c3)] 35)).alloc (Obj.cells #[false,(),(),()] 35)):=((a7).alloc (a8) _).alloc P6 _;have r:((W.alloc (Obj.cells #[l,(a1,n1,c1),(a2,n2,c2),(a3,n3,c3)] 35)).alloc (Obj.cells #[false,(),(),()] 35)).heap.size=W.heap.size+2:=P6
 obtain⟨y0,y1,y2,y3, -, -⟩:=hA.facts;have a:=a6 (r_w n p pa pc W 0 W _ ⟨l,a1,n1,c1,a2,n2,c2,a3,n3,c3,dY.keep h (a8) _ _ hc,y0,y1,y2,y3⟩ (hp.keep h (a8)));have k:=a6 h;have HB:=a6 hB;have d:=a6 r
 clear hc hA hB h r y0 y1 y2 y3 hp;cases f:l9 n p with
 | none=>
   rw [f]at a;clear f j;go_enter Tryz.func13,Tryz.ntmps13;go_wp2_with fail;refine a.o.mono ?_;rintro e w1 ⟨rfl,rfl⟩;clear a;go_wp2_with fail;refine bodyPost_ret (v:= .tuple #[.agg #[false,(),(),()], .int .i64 5]) (by simp [results,Tryz.results13,go_sem]) rfl ?_;exact⟨rfl,k.o⟩
 | some m=>
   rw [f]at a;have z:=j m f
   clear f j;go_enter Tryz.func13,Tryz.ntmps13;obtain⟨w0,s⟩:∃w0,w0=(W.alloc (Obj.cells #[l,(a1,n1,c1),(a2,n2,c2),(a3,n3,c3)] 35)).alloc (Obj.cells #[false,(),(),()] 35):=⟨_,rfl⟩;go_wp2_with fail;rw [<- s]at a k HB d⊢;refine a.o.mono ?_;rintro e w1 ⟨⟨b,off,rfl,l',b1,o1,d1,b2,o2,d2,b3,o3,d3,t,x0,x1,x2,x3⟩,rfl⟩;have HC:=a6 (b_3 m.wt m (.agg #[l',(b1,o1,d1),(b2,o2,d2),(b3,o3,d3)]) w0 (a8) P2 ⟨_,rfl,dY.keep (a7) t_n _ _ t⟩)
   clear a s t;go_wp2_with fail;refine HC.o.mono ?_;rintro e w2 ⟨cs,rfl,c,g⟩;obtain⟨m1,p1,q1,r1,p2,q2,r2,p3,q3,r3,rfl⟩:=c.form;have w:=HB.o.keep (g.mono t_n);obtain⟨z0,z1,z2,z3,⟨g0,g1,g2,g3⟩,A⟩:=w.facts;have x:=a6 (k.o.trans (g.mono t_n));have q:=a6 c;clear HC c g x0 x1 x2 x3 w HB;go_wp2_with fail;refine bodyPost_ret (v:= .tuple #[.agg #[m1,(p1,q1,r1),(p2,q2,r2),(p3,q3,r3)],OY]) t_o rfl ?_;have i:¬ (w0.heap.size <= W.heap.size+1):=t_n
   refine⟨_,rfl, ?_, ?_⟩
   . have hq:=cQ (N:=W.heap.size+1) (o:=3) (u:= .slice p3 q3 r3) (cQ (N:=W.heap.size+1) (o:=2) (u:= .slice p2 q2 r2) (cQ (N:=W.heap.size+1) (o:=1) (u:= .slice p1 q1 r1) (cQ (N:=W.heap.size+1) (o:=0) (u:= .bool m1) q.o i) i) i) i
     exact NodeQ.keep (a8) (fun _ _ _=>rfl) (fun b hb _=>by rw [d.o]at hb;omega) _ _ hq
   with_reducible exact l7 x.o (Nat.le_succ _) _ _ _ _
end Go.Proofs.YtmadpclcmjahoaaGreatDoor
namespace Go.Redl
open Go.RowKit
abbrev CZ:=Int×List UInt8
abbrev yY:=List UInt8×CZ
structure bK where
 type:List UInt8
 text:CZ
 other:CZ
 kids:List yY
 fill:Int
 fillT:List UInt8
structure b5 where
 rules:List bK
 els:bK
 order:List Int
 cap:Int
abbrev aZ (s:List UInt8):Value:= .string ⟨s.toArray⟩
def tJ (a:CZ):List Value:= [a.1,aZ a.2]
def fV (l:List yY):List Value:=l.flatMap fun p=> [aZ p.1,p.2.1,aZ p.2.2]
theorem f_r (l:List yY):∀u∈fV l,u.oneCell'=true:=by
 intro u hu;simp only [fV,List.mem_flatMap]at hu;obtain⟨p, -,hp⟩:=hu
 simp at hp
 rcases hp with rfl | rfl | rfl <;> rfl
theorem b_z:∀ (l:List yY) (i:Nat) (hi:i < l.length),(fV l)[i * 3]? =some (aZ l[i].1)/\(fV l)[i * 3+1]? =some (.int .i64 l[i].2.1)/\(fV l)[i * 3+2]? =some (aZ l[i].2.2)
 | [],i,hi=>absurd hi P6
 | p::l,0,hi=>by simp [fV]
 | p::l,i+1,hi=>by
   have h:=b_z l i R4;have e:fV (p::l)=aZ p.1:: .int .i64 p.2.1::aZ p.2.2::fV l:=by simp [fV]
   rw [e,show (i+1) * 3=i * 3+1+1+1 by omega]
   simpa using h
def rX (r:bK) (a:Option Addr) (c:Nat):List Value:= [aZ r.type,r.text.1,aZ r.text.2,r.other.1,aZ r.other.2,(a,r.kids.length,c),r.fill,aZ r.fillT]
def I5 (w:World) (B:Nat) (r:bK) (cs:List Value):Prop:= ∃a c,cs=rX r a c/\RowA w B 3 a r.kids.length c (fV r.kids)
def i9 (w:World) (B:Nat):List bK ->List Value ->Prop
 | [],css=>css= []
 | r::rs,css=>∃c1 c2,css=c1 ++ c2/\I5 w B r c1/\i9 w B rs c2
def b_A (w:World) (B:Nat) (s:b5) (cs:List Value):Prop:=
 ∃a c css ec,cs= .slice a s.rules.length c::(ec ++ (s.order.map (Value.int .i64) ++ [.int .i64 s.cap]))/\RowA w B 8 a s.rules.length c css/\i9 w B s.rules css/\I5 w B s.els ec/\s.order.length=6
def SchemaV (w:World) (B:Nat) (s:b5) (v:Value):Prop:= ∃cs:List Value,v= .agg cs.toArray/\b_A w B s cs
theorem I5.keep {w w':World} {B B':Nat} {r:bK} {cs:List Value} (h:I5 w B r cs) (hb:Below B w w') (hB:B <= B'):I5 w' B' r cs:=by
 obtain⟨a,c,h1,h2⟩:=h;exact⟨a,c,h1,h2.keep hb hB⟩
theorem i9.keep {w w':World} {B B':Nat} (hb:Below B w w') (hB:B <= B'):∀ {rs:List bK} {css:List Value},i9 w B rs css ->i9 w' B' rs css
 | [],css,h=>h
 | r::rs,css,h=>by
   obtain⟨c1,c2,h1,h2,h3⟩:=h;exact⟨c1,c2,h1,h2.keep hb hB,i9.keep hb hB h3⟩
theorem b_A.keep {w w':World} {B B':Nat} {s:b5} {cs:List Value} (h:b_A w B s cs) (hb:Below B w w') (hB:B <= B'):b_A w' B' s cs:=by
 obtain⟨a,c,css,ec,h1,h2,h3,h4,h5⟩:=h;exact⟨a,c,css,ec,h1,h2.keep hb hB,i9.keep hb hB h3,h4.keep hb hB,h5⟩
theorem SchemaV.keep {w w':World} {B B':Nat} {s:b5} {v:Value} (h:SchemaV w B s v) (hb:Below B w w') (hB:B <= B'):SchemaV w' B' s v:=by
 obtain⟨cs,h1,h2⟩:=h;exact⟨cs,h1,h2.keep hb hB⟩
theorem I5.one {w:World} {B:Nat} {r:bK} {cs:List Value} (h:I5 w B r cs):∀u∈cs,u.oneCell'=true:=by
 obtain⟨a,c,rfl, -⟩:=h;intro u hu;simp [rX]at hu;rcases hu with rfl | rfl | rfl | rfl | rfl | rfl | rfl | rfl <;> rfl
theorem I5.len {w:World} {B:Nat} {r:bK} {cs:List Value} (h:I5 w B r cs):cs.length=8:=by
 obtain⟨a,c,rfl, -⟩:=h
 rfl
theorem i9.one {w:World} {B:Nat}:∀ {rs:List bK} {css:List Value},i9 w B rs css ->∀u∈css,u.oneCell'=true
 | [],css,h=>by rw [show css= []from h];simp
 | r::rs,css,h=>by
   obtain⟨c1,c2,rfl,h2,h3⟩:=h;intro u hu;rcases OQ hu with hu | hu
   . exact h2.one u hu
   exact i9.one h3 u hu
theorem i9.at_ {w:World} {B:Nat}:∀ {rs:List bK} {css:List Value},i9 w B rs css ->∀ (k:Nat) (hk:k < rs.length),∃cs,I5 w B rs[k] cs/\∀j u,cs[j]? =some u ->css[k * 8+j]? =some u
 | [],css,h,k,hk=>absurd hk P6
 | r::rs,css,h,0,hk=>by
   obtain⟨c1,c2,rfl,h2,h3⟩:=h;refine⟨c1,h2,fun j u hj=> ?_⟩;rw [Nat.zero_mul,O5,List.getElem?_append_left (List.getElem?_eq_some_iff.1 hj).1];exact hj
 | r::rs,css,h,k+1,hk=>by
   obtain⟨c1,c2,rfl,h2,h3⟩:=h;obtain⟨cs,h4,h5⟩:=i9.at_ h3 k UQ;refine⟨cs,h4,fun j u hj=> ?_⟩;rw [OX u_0,h2.len,show (k+1) * 8+j - 8=k * 8+j by omega];exact h5 j u hj
theorem RowA.rule_at {w:World} {B n cap:Nat} {a:Option Addr} {rs:List bK} {css:List Value} (h:RowA w B 8 a n cap css) (hr:i9 w B rs css) (k:Nat) (hk:k < rs.length):
 ∃b off ra rc,a=some ⟨b,off,none⟩/\b < B/\RowA w B 3 ra rs[k].kids.length rc (fV rs[k].kids)/\∀j u,(rX rs[k] ra rc)[j]? =some u ->w.cell? ⟨b,off+k * 8+j,none⟩=some u:=by
 obtain⟨cs,⟨ra,rc,rfl,h2⟩,h3⟩:=hr.at_ k hk;have h0:=h3 0 _ (show (rX rs[k] ra rc)[0]? =some (aZ rs[k].type)from rfl);obtain⟨b,off,ha,hb,hc⟩:=h.some_ (by rintro rfl;simp at h0);refine⟨b,off,ra,rc,ha,hb,h2,fun j u hj=> ?_⟩;have:=hc _ u (h3 j u hj)
 rwa [<- Nat.add_assoc]at this
theorem RowA.pair_at {w:World} {B n cap:Nat} {a:Option Addr} {l:List yY} (h:RowA w B 3 a n cap (fV l)) (k:Nat) (hk:k < l.length):
 ∃b off,a=some ⟨b,off,none⟩/\b < B/\w.cell? ⟨b,off+k * 3,none⟩=some (aZ l[k].1)/\w.cell? ⟨b,off+k * 3+1,none⟩=some (.int .i64 l[k].2.1)/\w.cell? ⟨b,off+k * 3+2,none⟩=some (aZ l[k].2.2):=by
 obtain⟨h1,h2,h3⟩:=b_z l k hk;obtain⟨b,off,ha,hb,hc⟩:=h.some_ (by intro e;rw [e]at h1;simp at h1);exact⟨b,off,ha,hb,hc _ _ h1,by have:=hc _ _ h2;rwa [<- Nat.add_assoc]at this,by have:=hc _ _ h3;rwa [<- Nat.add_assoc]at this⟩
def DY:List yY ->Nat
 | []=>0
 | p::l=>3+p.1.length+p.2.2.length+DY l
def bK.wt (r:bK):Nat:=6+r.type.length+r.text.2.length+r.other.2.length+r.fillT.length+DY r.kids
def xY:List bK ->Nat
 | []=>0
 | r::rs=>r.wt+xY rs
def b5.wt (s:b5):Nat:=xY s.rules+s.els.wt
theorem N8 (l:List yY):3 * l.length <= DY l:=by
 induction l with
 | nil=>simp [DY]
 | cons p l ih=>simp only [DY,O7];omega
theorem N9 {l:List yY} {p:yY} (h:p∈l):3+p.1.length+p.2.2.length <= DY l:=by
 induction l with
 | nil=>cases h
 | cons q l ih=>
   simp only [DY];rcases OJ h with rfl | h
   . omega
   have:=ih h;omega
theorem mX (l:List bK):6 * l.length <= xY l:=by
 induction l with
 | nil=>simp [xY]
 | cons p l ih=>simp only [xY,bK.wt,O7];omega
theorem E7 {l:List bK} {r:bK} (h:r∈l):r.wt <= xY l:=by
 induction l with
 | nil=>cases h
 | cons q l ih=>
   simp only [xY];rcases OJ h with rfl | h
   . omega
   have:=ih h;omega
end Go.Redl
namespace Go.Proofs.YtmadpclcmjahoaaGreatDoor
open Go.RowKit Go.Redl Go.Deep
def ActΦ {H:Type} (a:CZ) (cs:List Value) (d:DataW H):Prop:=cs=tJ a/\1+a.2.length <= Rows.uptoBulk d
def PairΦ {H:Type} (p:yY) (cs:List Value) (d:DataW H):Prop:=cs= [aZ p.1, .int .i64 p.2.1,aZ p.2.2]/\3+p.1.length+p.2.2.length <= Rows.uptoBulk d
def RuleΦ {H:Type} (W:World) (r:bK) (cs:List Value) (d:DataW H):Prop:=I5 W W r cs/\r.wt <= Rows.uptoBulk d
theorem NJ {H:Type} {enc:TypeId×Value ->H} {W:World} {fuel:Nat} {cs:List Value} {x:DataW H×List MemPlace} (h:DataW.trod enc Tryz.prog W 0 (fun _=>true) true fuel 24 cs=some x):∃a,ActΦ a cs x.1:=by
 obtain⟨xs,n,rfl,rfl,hl,hx,hf⟩:=DataW.trod_struct Tryz.underlying24 h;rw [show Tryz.prog.cellsOf 24=2 by kernel_rfl]at hl
 match xs,hx,cs,hl with
 | [y0,y1],_, [v0,v1],_=>
   have g0:=hf 0 _ rfl;have g1:=hf 1 _ rfl;have k0:Tryz.prog.cellsOf 3=1:=P3
   have k1:Tryz.prog.cellsOf 9=1:=P3
   simp [k0,k1]at g0 g1
   obtain⟨z,e0,rfl, -⟩:=DataW.trod_int Tryz.underlying3 g0;obtain⟨s,e1,rfl, -⟩:=DataW.trod_string Tryz.underlying9 g1
   simp at e0 e1
   subst e0;subst e1;refine⟨(z,s.data.toList), ?_, ?_⟩
   . simp only [tJ,aZ,I4]
   simp [Rows.uptoBulk,Rows.uptoBulkAll];omega
theorem g_y {H:Type} {enc:TypeId×Value ->H} {W:World} {fuel:Nat} {cs:List Value} {x:DataW H×List MemPlace} (h:DataW.trod enc Tryz.prog W 0 (fun _=>true) true fuel 140 cs=some x):∃p,PairΦ p cs x.1:=by
 obtain⟨xs,n,rfl,rfl,hl,hx,hf⟩:=DataW.trod_struct Tryz.underlying140 h;rw [show Tryz.prog.cellsOf 140=3 by kernel_rfl]at hl
 match xs,hx,cs,hl with
 | [y0,y1],_, [v0,v1,v2],_=>
   have g0:=hf 0 _ rfl;have g1:=hf 1 _ rfl;have k0:Tryz.prog.cellsOf 9=1:=P3
   have k1:Tryz.prog.cellsOf 24=2:=P3
   simp [k0,k1]at g0 g1
   obtain⟨s,e0,rfl, -⟩:=DataW.trod_string Tryz.underlying9 g0;obtain⟨a,ha,hb⟩:=NJ g1
   simp [tJ]at e0 ha
   obtain⟨rfl,rfl⟩:=ha;subst e0;refine⟨(s.data.toList,a), ?_, ?_⟩
   . simp only [aZ,I4]
   simp [Rows.uptoBulk,Rows.uptoBulkAll]at *;omega
theorem d_3 {H:Type}:∀ {l:List yY} {css:List Value} {ds:List (DataW H)},I3 PairΦ l css ds ->css=fV l/\DY l <= Rows.uptoBulkAll ds
 | [],css,ds,h=>by obtain⟨rfl,rfl⟩:=h;exact⟨rfl,by simp [DY]⟩
 | p::l,css,ds,h=>by
   obtain⟨c,cs,d,ds',rfl,rfl,⟨rfl,hb⟩,hr⟩:=h;obtain⟨rfl,h2⟩:=d_3 hr;exact⟨by simp [fV],by simp only [DY,Rows.uptoBulkAll];omega⟩
theorem d_4 {H:Type} {W:World}:∀ {l:List bK} {css:List Value} {ds:List (DataW H)},I3 (RuleΦ W) l css ds ->i9 W W l css/\xY l <= Rows.uptoBulkAll ds
 | [],css,ds,h=>by obtain⟨rfl,rfl⟩:=h;exact⟨rfl,by simp [xY]⟩
 | r::l,css,ds,h=>by
   obtain⟨c,cs,d,ds',rfl,rfl,⟨hk,hb⟩,hr⟩:=h;obtain⟨h2,h3⟩:=d_4 hr;exact⟨⟨c,cs,rfl,hk,h2⟩,by simp only [xY,Rows.uptoBulkAll];omega⟩
theorem b_B {H:Type} {enc:TypeId×Value ->H} {W:World} {fuel:Nat} {cs:List Value} {x:DataW H×List MemPlace} (h:DataW.trod enc Tryz.prog W 0 (fun _=>true) true fuel 27 cs=some x):∃r,RuleΦ W r cs x.1:=by
 obtain⟨xs,n,rfl,rfl,hl,hx,hf⟩:=DataW.trod_struct Tryz.underlying27 h;rw [show Tryz.prog.cellsOf 27=8 by kernel_rfl]at hl
 match xs,hx,cs,hl with
 | [y0,y1,y2,y3,y4,y5],_, [v0,v1,v2,v3,v4,v5,v6,v7],_=>
   have g0:=hf 0 _ rfl;have g1:=hf 1 _ rfl;have g2:=hf 2 _ rfl;have g3:=hf 3 _ rfl;have g4:=hf 4 _ rfl;have g5:=hf 5 _ rfl;have k0:Tryz.prog.cellsOf 9=1:=P3
   have k1:Tryz.prog.cellsOf 24=2:=P3
   have k2:Tryz.prog.cellsOf 25=1:=P3
   have k3:Tryz.prog.cellsOf 3=1:=P3
   simp [k0,k1,k2,k3]at g0 g1 g2 g3 g4 g5
   obtain⟨s0,e0,rfl, -⟩:=DataW.trod_string Tryz.underlying9 g0;obtain⟨a1,e1,b1⟩:=NJ g1;obtain⟨a2,e2,b2⟩:=NJ g2;obtain⟨a3,c3,ps,css3,ds3,e3,r3,el3,s3⟩:=wY PairΦ Tryz.underlying25 (show Tryz.prog.cellsOf 140=3 by kernel_rfl) P9
    (fun m cs x _ hx=>g_y hx) (fun y c d hh=>by obtain⟨rfl, -⟩:=hh;intro u hu;simp at hu;rcases hu with rfl | rfl | rfl <;> rfl) g3
   obtain⟨z4,e4,rfl, -⟩:=DataW.trod_int Tryz.underlying3 g4;obtain⟨s5,e5,rfl, -⟩:=DataW.trod_string Tryz.underlying9 g5
   simp [tJ]at e0 e1 e2 e3 e4 e5
   obtain⟨rfl,rfl⟩:=e1;obtain⟨rfl,rfl⟩:=e2;subst e0;subst e3;subst e4;subst e5;obtain⟨rfl,b3⟩:=d_3 el3;have m3:=A4 (n:=0) (s3.imp (fun h=>⟨h.1,rfl,h.2.2⟩) id);refine⟨⟨s0.data.toList,a1,a2,ps,z4,s5.data.toList⟩,⟨a3,c3, ?_,r3⟩, ?_⟩
   . simp only [rX,aZ,I4]
   simp [bK.wt,Rows.uptoBulk,Rows.uptoBulkAll]at *;omega
theorem B7 {H:Type} {enc:TypeId×Value ->H} {W:World} {fuel:Nat} {cs:List Value} {x:DataW H×List MemPlace} (h:DataW.trod enc Tryz.prog W 0 (fun _=>true) true fuel 30 cs=some x):∃s,b_A W W s cs/\s.wt <= Rows.uptoBulk x.1:=by
 obtain⟨xs,n,rfl,rfl,hl,hx,hf⟩:=DataW.trod_struct Tryz.underlying30 h;rw [show Tryz.prog.cellsOf 30=16 by kernel_rfl]at hl
 match xs,hx,cs,hl with
 | [y0,y1,y2,y3],_, [v0,v1,v2,v3,v4,v5,v6,v7,v8,v9,v10,v11,v12,v13,v14,v15],_=>
   have g0:=hf 0 _ rfl;have g1:=hf 1 _ rfl;have g2:=hf 2 _ rfl;have g3:=hf 3 _ rfl;have k0:Tryz.prog.cellsOf 22=1:=P3
   have k1:Tryz.prog.cellsOf 27=8:=P3
   have k2:Tryz.prog.cellsOf 28=6:=P3
   have k3:Tryz.prog.cellsOf 3=1:=P3
   simp [k0,k1,k2,k3]at g0 g1 g2 g3
   obtain⟨a0,c0,rs,css0,ds0,e0,r0,el0,s0⟩:=wY (RuleΦ W) Tryz.underlying22 (show Tryz.prog.cellsOf 27=8 by kernel_rfl) P9
    (fun m cs x _ hx=>b_B hx) (fun y c d hh=>hh.1.one) g0
   obtain⟨er,a,eb⟩:=b_B g1;obtain⟨ys,m, -, -, -,b,hy⟩:=DataW.trod_array Tryz.underlying28 g2;rw [k3]at hy;have o0:=hy 0 P9
   have o1:=hy 1 P9;have o2:=hy 2 P9;have o3:=hy 3 P9;have o4:=hy 4 P9;have o5:=hy 5 P9
   match ys,b with
   | [q0,q1,q2,q3,q4,q5],_=>
     simp at o0 o1 o2 o3 o4 o5
     obtain⟨z0,f0, -, -⟩:=DataW.trod_int Tryz.underlying3 o0;obtain⟨z1,f1, -, -⟩:=DataW.trod_int Tryz.underlying3 o1;obtain⟨z2,f2, -, -⟩:=DataW.trod_int Tryz.underlying3 o2;obtain⟨z3,f3, -, -⟩:=DataW.trod_int Tryz.underlying3 o3;obtain⟨z4,f4, -, -⟩:=DataW.trod_int Tryz.underlying3 o4;obtain⟨z5,f5, -, -⟩:=DataW.trod_int Tryz.underlying3 o5;obtain⟨z6,f6, -, -⟩:=DataW.trod_int Tryz.underlying3 g3
     simp at e0 f0 f1 f2 f3 f4 f5 f6
     subst e0;subst f0;subst f1;subst f2;subst f3;subst f4;subst f5;subst f6;obtain⟨e,b0⟩:=d_4 el0;have m0:=A4 (n:=0) (s0.imp (fun h=>⟨h.1,rfl,h.2.2⟩) id);refine⟨⟨rs,er, [z0,z1,z2,z3,z4,z5],z6⟩,⟨a0,c0,css0,_,rfl,r0,e,a,rfl⟩, ?_⟩;simp only [b5.wt,List.map_cons,List.map_nil,Rows.uptoBulk,Rows.uptoBulkAll];omega
def b8:aX ->Bool
 | .mk l _ _ _=>l
def dJ:aX ->List fQ
 | .mk _ ps _ _=>ps
def iJ:aX ->List Int
 | .mk _ _ t _=>t
def uZ (p:Nat ->Bool) (n:Nat):Int:=match (List.range n).find? p with
 | some k=>k
 | none=> -1
theorem vQ {p:Nat ->Bool} {n k:Nat} (hk:k < n) (h:p k=true) (hb:∀j,j < k ->p j=false):uZ p n=k:=by
 unfold uZ;have:(List.range n).find? p=some k:=by
  rw [List.find?_range_eq_some];exact⟨h,by simpa using hk,fun j hj=>by simp [hb j hj]⟩
 rw [this]
theorem tK {p:Nat ->Bool} {n:Nat} (hb:∀j,j < n ->p j=false):uZ p n= -1:=by
 unfold uZ;have:(List.range n).find? p=none:=by
  rw [List.find?_eq_none];intro x hx;simp [hb x TQ]
 rw [this]
theorem jV (p:Nat ->Bool) (n:Nat):(∃k,k < n/\p k=true/\(∀j,j < k ->p j=false)/\uZ p n=k)∨ ((∀j,j < n ->p j=false)/\uZ p n= -1):=by
 cases h:(List.range n).find? p with
 | none=>
   have hb:∀j,j < n ->p j=false:=fun j hj=>by
    rw [List.find?_eq_none]at h;simpa using h j VZ
   exact .inr ⟨hb,tK hb⟩
 | some k=>
   rw [List.find?_range_eq_some]at h;obtain⟨h1,h2,h3⟩:=h;have hk:k < n:=R5
   have hb:∀j,j < k ->p j=false:=fun j hj=>by simpa using h3 j hj
   exact .inl ⟨k,hk,h1,hb,vQ hk h1 hb⟩
theorem d_Q {α :Type} {l:List α} {q: α ->Bool} {k:Nat} (hk:k < l.length) (h:q l[k]=true) (hb:∀j (hj:j < k),q (l[j]' P2)=false):l.find? q=some l[k]:=by
 rw [List.find?_eq_some_iff_getElem];exact⟨h,k,hk,rfl,fun j hj=>by simp [hb j hj]⟩
theorem c_t {α :Type} {l:List α} {q: α ->Bool} (hb:∀j (hj:j < l.length),q l[j]=false):l.find? q=none:=by
 rw [List.find?_eq_none];intro x hx;obtain⟨j,hj,rfl⟩:=List.mem_iff_getElem.1 hx
 simp [hb j hj]
def E8:List UInt8:= [116,121,112,101]
def f_s (ps:List fQ) (k:List UInt8):Option (List UInt8):=(ps.find? (fun p=>decide (p.1=k))).map (·.2)
def dZ (n:aX):List UInt8:=if b8 n then [] else (f_s (dJ n) E8).getD []
def cJ (s:b5) (kind:List UInt8):bK:=(s.rules.find? (fun r=>decide (r.type=kind))).getD s.els
def lJ (r:bK) (kind:List UInt8):CZ:=((r.kids.find? (fun p=>decide (p.1=kind))).map (·.2)).getD r.other
def eQ (r:bK) (n:aX):CZ:=if b8 n then r.text else lJ r (dZ n)
theorem f_H {α :Type} (q: α ->Bool):∀ (l:List α) (m:Nat) (hm:m <= l.length),(∀j (hj:j < m),q (l[j]' P2)=true) ->(∀h:m < l.length,q l[m]=false) ->(l.takeWhile q).length=m
 | [],m,hm,h1,h2=>by simp at hm;subst hm;rfl
 | x::l,0,hm,h1,h2=>by
   have:=h2 P6
   simp at this
   simp [this]
 | x::l,m+1,hm,h1,h2=>by
   have h0:=h1 0 P2
   simp at h0
   rw [List.takeWhile_cons,if_pos h0,O7,f_H q l m ZV (fun j hj=>by simpa using h1 (j+1) P2) (fun h=>h2 (Nat.succ_lt_succ h))]
def b_C (l:List CZ) (i:Nat):Nat:=1+((l.drop (i+1)).takeWhile (fun a=>decide (a=l.getD i (0, [])))).length
theorem g_z {l:List CZ} {i m:Nat} (hi:i < l.length) (h0:1 <= m) (hm:i+m <= l.length) (h1:∀j (hj:j < m),l[i+j]' P2=l[i]) (h2:∀h:i+m < l.length,l[i+m]≠l[i]):b_C l i=m:=by
 have hg:l.getD i (0, [])=l[i]:=by simp [List.getD,NV hi]
 unfold b_C;rw [hg,f_H (fun a=>decide (a=l[i])) (l.drop (i+1)) (m - 1) P8 (fun j hj=> ?_) (fun h=> ?_)]
 . omega
 . have:=h1 (j+1) P2
   simp only [List.getElem_drop,decide_eq_true_eq];rw [<- this];congr 1
   omega
 have:=h2 (by simp at h;omega);simp only [List.getElem_drop,decide_eq_false_iff_not];intro e;refine this (Eq.trans ?_ e)
 congr 1
 omega
abbrev m9 (r:bK) (ks:List aX):List CZ:=ks.map (eQ r)
abbrev cY (ks:List aX) (i:Nat):aX:=ks.getD i (.mk false [] [] [])
def D2 (r:bK) (ks:List aX) (c:Int) (i:Nat):Bool:=
 if c=1 then decide ((eQ r (cY ks i)).1=2) else if c=2 then decide ((eQ r (cY ks i)).1=3) else if c=3 then decide ((eQ r (cY ks i)).1=4)
 else if c=4 then decide (0 < i) && (b8 (cY ks i) && (b8 (cY ks (i - 1)) && decide (dJ (cY ks i)=dJ (cY ks (i - 1)))))
 else if c=5 then b8 (cY ks i) && (decide ((iJ (cY ks i)).length=0) && decide (1 < ks.length)) else false
def gV (r:bK) (ks:List aX) (c:Int):Int:=if c=6 then (if ks.length=0/\r.fill≠0 then 0 else -1) else uZ (D2 r ks c) ks.length
def j7 (r:bK) (ks:List aX) (c:Int):Nat:=if c=3 then b_C (m9 r ks) (gV r ks c).toNat else 1
abbrev vJ:=Int×Int×Int
def wZ (r:bK) (ks:List aX):List Int ->vJ
 | []=>(0,0,0)
 | c::cs=>if 0 <= gV r ks c then (c,gV r ks c,(j7 r ks c:Int)) else wZ r ks cs
def eV (s:b5) (n:aX):vJ:=if b8 n then (0,0,0) else wZ (cJ s (dZ n)) (aY n) s.order
theorem NK {r:bK} {ks:List aX} {c:Int} (h:0 <= gV r ks c):1 <= c/\c <= 6:=by
 unfold gV at h;split at h
 . omega
 rename_i h6
 rcases jV (D2 r ks c) ks.length with⟨k,hk,hp, -, -⟩ | ⟨-,e⟩
 . unfold D2 at hp
   split at hp
   . omega
   split at hp
   . omega
   split at hp
   . omega
   split at hp
   . omega
   split at hp
   . omega
   cases hp
 rw [e]at h;omega
structure fZ where
 kind:Int
 path:List Int
 dest:List Int
 pos:Int
 node:aX
 old:List fQ
abbrev cV:aX:= .mk false [] [] []
def gX (kind:List UInt8):aX:= .mk false (if kind= [] then [] else [(E8,kind)]) [] []
def jY:aX ->aX
 | .mk l ps t _=> .mk l ps t []
def nX (r:bK) (ks:List aX) (p:List Int) (f:vJ):List fZ:=
 if f.1=1∨f.1=5 then [⟨2,p ++ [f.2.1], [],0,cY ks f.2.1.toNat, []⟩]
 else if f.1=2 then (List.range (aY (cY ks f.2.1.toNat)).length).map (fun i:Nat=>(⟨5,p ++ [f.2.1,0],p ++ [f.2.1+(1+(i:Int))],0,cV, []⟩:fZ)) ++ [⟨2,p ++ [f.2.1], [],0,jY (cY ks f.2.1.toNat), []⟩]
 else if f.1=3 then ⟨1,p ++ [f.2.1], [],0,gX (eQ r (cY ks f.2.1.toNat)).2, []⟩::(List.range f.2.2.toNat).map (fun i:Nat=>(⟨5,p ++ [f.2.1+1],p ++ [f.2.1,(i:Int)],0,cV, []⟩:fZ))
 else if f.1=4 then [⟨3,p ++ [f.2.1], [],(iJ (cY ks (f.2.1.toNat - 1))).length,cV,dJ (cY ks f.2.1.toNat)⟩]
 else [⟨1,p ++ [f.2.1], [],0,if r.fill=1 then .mk true [] [] [] else gX r.fillT, []⟩]
def p_P (s:b5) (n:aX) (p:List Int):List fZ×Int:=
 match l9 n p with
 | none=>([],5)
 | some k=>if b8 k then ([],7) else if (eV s k).1=0 then ([],14) else (nX (cJ s (dZ k)) (aY k) p (eV s k),0)
theorem b_D:(Tryz.prog.info? 3).map (fun i=>(i.zero,i.size,i.bytes))=some (some (.int .i64 0),1,8):=P3
theorem pZ (B n:Nat) (a:Option Addr) (cap:Nat) (cs:List Value) (w:World) (hr:RowA w B 1 a n cap cs) (hB:B <= w.heap.size) (hn:n <= 100000000):
 Calls Tryz.prog 119 #[(a,n,cap)] w (vX w 3 1 n cs):=by
 have c:=fun(w:World)=>Lib.run_eql_slice_nil w (P:=Tryz.prog) 36 3 a n cap 0 0 Tryz.underlying36
 cases ha:a with
 | none=>
   subst ha;obtain rfl:=hr.nil rfl;obtain rfl:n=0:=S7
   have d:cs= []:=O2 SJ;subst d;go_enter Tryz.func119,Tryz.ntmps119;go_wp2_with fail;go_ret;exact⟨_,rfl,World.ownsRow_nil _ _ _ _,a7⟩
 | some ad=>
   subst ha;go_enter Tryz.func119,Tryz.ntmps119
   go_wp2_with (at_builtin;refine u_9 rfl _ _ 36 rfl w.heap.size 3 OY 1 8 Tryz.underlying36 b_D rfl P9 _ 0 [] rfl ?hown _ n cap B cs rfl ?hr ?h63 ?hb ?hbase ?_)
   case hown=>exact World.ownsRow_lit w #[] 0 (a8) (Nat.zero_le _) rfl
   case hr=>exact hr.keep ((a7).alloc hB _) (a8)
   case h63=>unfold maxLen;omega
   case hb=>omega
   case hbase=>simp
   intro v' w1 hown b;have Ho:=a6 hown;have Hg:=a6 b;clear hown b c hr
   go_wp2_with fail;go_ret;refine⟨v',rfl,by simpa using Ho.o,((a7).alloc (a8) _).grown Hg.o P6 ?_⟩
   simp [Value.ownBlock]
mutual
def jZ (want:aX ->Bool):aX ->List Int ->List (List Int)
 | .mk l ps t ks,p=>(if want (.mk l ps t ks) then [p] else []) ++ kV want ks 0 p
def kV (want:aX ->Bool):List aX ->Nat ->List Int ->List (List Int)
 | [],_,_=> []
 | k::ks,i,p=>jZ want k (p ++ [(i:Int)]) ++ kV want ks (i+1) p
end
def tQ (w:World) (ok:Nat ->Prop):List (List Int) ->List Value ->Prop
 | [],cs=>cs= []
 | zs::l,cs=>∃a cap cs',cs= .slice a zs.length cap::cs'/\RowQ w ok 1 a zs.length cap (zs.map (Value.int .i64))/\tQ w ok l cs'
theorem tQ.keep {w w':World} {ok ok':Nat ->Prop} (hs:w.heap.size <= w'.heap.size) (hk:∀b,ok b ->b < w.heap.size ->w'.heap[b]? =w.heap[b]?) (ho:∀b,ok b ->b < w.heap.size ->ok' b):∀ {l:List (List Int)} {cs:List Value},tQ w ok l cs ->tQ w' ok' l cs
 | [],cs,h=>h
 | zs::l,cs,h=>by
   obtain⟨a,cap,cs',h1,h2,h3⟩:=h;exact⟨a,cap,cs',h1,h2.keep hs hk ho,tQ.keep hs hk ho h3⟩
theorem tQ.one {w:World} {ok:Nat ->Prop}:∀ {l:List (List Int)} {cs:List Value},tQ w ok l cs ->∀u∈cs,u.oneCell'=true
 | [],cs,h=>by subst h;simp
 | zs::l,cs,h=>by
   obtain⟨a,cap,cs',rfl,h2,h3⟩:=h;intro u hu;rcases OJ hu with rfl | hu
   . rfl
   exact tQ.one h3 u hu
theorem tQ.snoc {w:World} {ok:Nat ->Prop} {zs:List Int} {a:Option Addr} {cap:Nat} (hr:RowQ w ok 1 a zs.length cap (zs.map (Value.int .i64))):∀ {l:List (List Int)} {cs:List Value},tQ w ok l cs ->tQ w ok (l ++ [zs]) (cs ++ [.slice a zs.length cap])
 | [],cs,h=>by subst h;exact⟨a,cap, [],rfl,hr,rfl⟩
 | ys::l,cs,h=>by
   obtain⟨b,c,cs',rfl,h2,h3⟩:=h;exact⟨b,c,cs' ++ [.slice a zs.length cap],rfl,h2,tQ.snoc hr h3⟩
end Go.Proofs.YtmadpclcmjahoaaGreatDoor
