/- Parts of the proof: CC6. -/
import Derived.Test.YtmadpclcmjahoaaGreatDoorCC5
import Derived.Lib.SliceRun
set_option linter.unusedVariables false
set_option linter.unusedSimpArgs false
set_option maxHeartbeats 8000000
set_option maxRecDepth 100000
namespace Go.Proofs.YtmadpclcmjahoaaGreatDoor
open Go.RowKit Go.Redl
mutual
def rK:aX ->aX ->Bool
 | .mk l ps t ks, .mk l' ps' t' ks'=>l == l' && (decide (ps=ps') && (decide (t=t') && (decide (ks.length=ks'.length) && vY ks ks')))
def vY:List aX ->List aX ->Bool
 | [],_=>true
 | _::_, []=>true
 | k::ks,k'::ks'=>rK k k' && vY ks ks'
end
mutual
theorem oQ:∀n:aX,rK n n=true
 | .mk l ps t ks=>by unfold rK;simp [d_V ks]
theorem d_V:∀ks:List aX,vY ks ks=true
 | []=>by unfold vY;rfl
 | k::ks=>by unfold vY;simp [oQ k,d_V ks]
end
mutual
theorem d_W:∀n m:aX,rK n m=true ->n=m
 | .mk l ps t ks, .mk l' ps' t' ks',h=>by
   unfold rK at h;simp only [Bool.and_eq_true,decide_eq_true_eq,beq_iff_eq]at h;obtain⟨h1,h2,h3,h4,h5⟩:=h;subst h1;subst h2;subst h3;rw [h_w ks ks' h4 h5]
theorem h_w:∀ks ks':List aX,ks.length=ks'.length ->vY ks ks'=true ->ks=ks'
 | [], [],_,_=>rfl
 | [],_::_,h,_=>by simp at h
 | _::_, [],h,_=>by simp at h
 | k::ks,k'::ks',h,h2=>by
   unfold vY at h2;simp only [Bool.and_eq_true]at h2;rw [d_W k k' h2.1,h_w ks ks' TX h2.2]
end
theorem d_X {ks ks':List aX} {k:Nat} (h:k < ks.length) (h':k < ks'.length):vY (ks.drop k) (ks'.drop k)=(rK ks[k] ks'[k] && vY (ks.drop (k+1)) (ks'.drop (k+1))):=by
 conv=>lhs;rw [NX h,NX h']
 simp only [vY]
theorem f_K {ks ks':List aX} {k:Nat} (h:ks.length <= k):vY (ks.drop k) (ks'.drop k)=true:=by
 rw [List.drop_eq_nil_of_le h];unfold vY;rfl
theorem h_x (ks ks':List aX) (a a':Option Addr) (c c':Nat) (css css':List Value) (W:World) (hr:RowA W W 4 a ks.length c css) (hk:eX W W ks css) (m:RowA W W 4 a' ks'.length c' css') (n:eX W W ks' css')
 (hC:∀ (i:Nat) (h:i < ks.length) (h':i < ks'.length) (v v':Value) (W':World),bY W' W' ks[i] v ->bY W' W' ks'[i] v' ->Calls Tryz.prog 25 #[v,v'] W' fun e w'=>e= .returned (rK ks[i] ks'[i])/\Below W' W' w'):
 Calls Tryz.prog 83 #[(a,ks.length,c),(a',ks'.length,c'), .func (.func 25) #[] #[]] W fun e w'=>e= .returned (decide (ks.length=ks'.length) && vY ks ks')/\Below W W w':=by
 have hm:ks.length <= 9223372036854775807:=PQ
 have y:ks'.length <= 9223372036854775807:=by have h1:=m.le;have h2:=m.max;unfold maxLen at h2;omega
 by_cases hl:ks.length=ks'.length
 . have t:(((ks.length:Nat):Int) != (ks'.length:Int))=false:=XQ
   have Hl:=a6 hl;have HC:=a6 hC;have Hk:=a6 hk;have u:=a6 n
   obtain⟨R,hR⟩:∃R,R=(decide (ks.length=ks'.length) && vY ks ks'):=⟨_,rfl⟩;rw [<- hR];have HR:Hid (R=vY (ks.drop 0) (ks'.drop 0)):=by show R=_;rw [hR];simp [hl]
   clear hl hC hk n hR;have z:ks'.length <= ks.length:=by have:=Hl.o;omega
   go_enter Tryz.func83,Tryz.ntmps83
   go_wp2_with fail
   go_loopw [17] (fun i wr=>∃k:Nat,k <= ks.length/\i= .int .i64 k/\R=vY (ks.drop k) (ks'.drop k)/\Below W W wr) (fun i _=>ks.length - (intOf i).toNat)
   case atStart=>exact⟨0,Nat.zero_le _,rfl,HR.o,a7⟩
   case round=>
    obtain⟨k,A,rfl,hp,d⟩:=hrel;clear HR;by_cases o:k < ks.length
    . have g:k < ks'.length:=by have:=Hl.o;omega
      have hW:=d.size;obtain⟨b,off,l,a1,n1,c1,a2,n2,c2,a3,n3,c3,rfl,hb,hn,g0,g1,g2,g3⟩:=(hr.keep d (a8)).kid_at (eX.keep d (a8) _ _ Hk.o) k o;obtain⟨b',off',l',a1',n1',c1',a2',n2',c2',a3',n3',c3',rfl,B,r,g0',g1',g2',g3'⟩:=(m.keep d (a8)).kid_at (eX.keep d (a8) _ _ u.o) k g;have C:b < wr.heap.size:=P2
      have x:b' < wr.heap.size:=P2
      have j:Below wr wr ((wr.alloc (Obj.cells #[l,(a1,n1,c1),(a2,n2,c2),(a3,n3,c3)] 35)).alloc (Obj.cells #[l',(a1',n1',c1'),(a2',n2',c2'),(a3',n3',c3')] 35)):=((a7).alloc (a8) _).alloc P6 _;have p:=a6 (HC.o k o g (.agg #[l,(a1,n1,c1),(a2,n2,c2),(a3,n3,c3)]) (.agg #[l',(a1',n1',c1'),(a2',n2',c2'),(a3',n3',c3')]) _ ⟨_,rfl,dY.keep (j.mono hW) (aJ hW j.size) _ _ hn⟩ ⟨_,rfl,dY.keep (j.mono hW) (aJ hW j.size) _ _ r⟩);have f:=a6 (d_X o g);have w:=a6 (d.trans (j.mono hW));have Hp:=a6 hp;generalize rK ks[k] ks'[k]=q at p f;clear hn r hp d;go_wp2_with fail;refine p.o.mono ?_;rintro e w1 ⟨rfl,d⟩;have s:=a6 (eZ w.o d (a8))
      clear p d g0 g1 g2 g3 g0' g1' g2' g3';cases q with
      | true=>
        have f:Hid (vY (ks.drop k) (ks'.drop k)=vY (ks.drop (k+1)) (ks'.drop (k+1))):=by show _=_;rw [f.o];simp
        go_wp2_with fail
        go_roundw
        case rel=>exact⟨k+1,by omega,by go_num,by rw [Hp.o,f.o],s.o⟩
        case measure=>simp [intOf];omega
      | false=>
        have f:Hid (R=false):=by show _=_;rw [Hp.o,f.o];simp
        go_wp2_with fail;go_ret;exact⟨bJ f.o.symm,s.o⟩
    have Hp:=a6 hp;have Hb:=a6 d
    clear hp d;go_wp2_with fail;go_ret;exact⟨bJ (by rw [Hp.o,f_K P2]),Hb.o⟩
 have t:(((ks.length:Nat):Int) != (ks'.length:Int))=true:=P8
 have Hl:=a6 hl;clear hl hC hk n
 go_enter Tryz.func83,Tryz.ntmps83
 go_wp2_with fail;go_ret;exact⟨bJ (by simp [Hl.o]),a7⟩
theorem g_C (a a':Option Addr) (cap cap' B:Nat) (xs ys:List fQ) (w:World) (hr:RowA w B 2 a xs.length cap (cK xs)) (b:RowA w B 2 a' ys.length cap' (cK ys)):
 Calls Tryz.prog 81 #[(a,xs.length,cap),(a',ys.length,cap')] w fun e w'=>e= .returned (decide (xs=ys))/\pY w w':=by
 have H:=a6 (j_f a a' cap cap' B xs ys w hr b);clear hr b;go_enter Tryz.func81,Tryz.ntmps81;go_wp2_with fail;refine H.o.mono ?_;rintro e w1 ⟨rfl,hd⟩;have Hd:=a6 hd
 clear hd H;go_wp2_with fail;go_ret;exact⟨rfl,Hd.o⟩
theorem p_Y (v1 v2:Value) (B:Nat) (xs ys:List Int) (w:World) (h1:c_r .i32 w B v1 xs) (h2:c_r .i32 w B v2 ys):
 Calls Tryz.prog 82 #[v1,v2] w fun e w'=>e= .returned (decide (xs=ys))/\pY w w':=by
 have H:=a6 (j_b v1 v2 B xs ys w h1 h2);clear h1 h2;go_enter Tryz.func82,Tryz.ntmps82;go_wp2_with fail;refine H.o.mono ?_;rintro e w1 ⟨rfl,hd⟩;have Hd:=a6 hd
 clear hd H;go_wp2_with fail;go_ret;exact⟨rfl,Hd.o⟩
theorem d_Y (l l':Bool) (ps ps':List fQ) (t t':List Int) (ks ks':List aX):rK (.mk l ps t ks) (.mk l' ps' t' ks')=(l == l' && (decide (ps=ps') && (decide (t=t') && (decide (ks.length=ks'.length) && vY ks ks')))):=by
 rw [rK]
theorem d_Z (m:Nat):∀ (n1 n2:aX) (v1 v2:Value) (W:World),n1.wt <= m ->bY W W n1 v1 ->bY W W n2 v2 ->
 Calls Tryz.prog 25 #[v1,v2] W fun e w'=>e= .returned (rK n1 n2)/\Below W W w':=by
 induction m with
 | zero=>intro n1 n2 v1 v2 W hm;have:=J4 n1;omega
 | succ m IH=>
   intro n1 n2 v1 v2 W hm n o;obtain⟨l,ps,t,ks⟩:=n1;obtain⟨l',ps',t',ks'⟩:=n2;obtain⟨ap,cp,at_,ct,ak,ck,css,rfl,hp,ht,hk,p⟩:=n.open;obtain⟨ap',cp',at_',ct',ak',ck',css',rfl,r,s,u,j⟩:=o.open;have w:fY ks <= m:=s_W
   have Hs:=a6 (d_Y l l' ps ps' t t' ks ks');generalize rK (.mk l ps t ks) (.mk l' ps' t' ks')=R at Hs⊢;have d:Below W W ((W.alloc (Obj.cells #[l,(ap,ps.length,cp),(at_,t.length,ct),(ak,ks.length,ck)] 35)).alloc (Obj.cells #[l',(ap',ps'.length,cp'),(at_',t'.length,ct'),(ak',ks'.length,ck')] 35)):=((a7).alloc (a8) _).alloc P6 _;have HP:=a6 (g_C ap ap' cp cp' _ ps ps' _ (hp.keep d (a8)) (r.keep d (a8)));have HT:=fun q=>a6 (p_Y _ _ _ t t' _ (ht.keep (below_drewN d q) (a8)) (s.keep (below_drewN d q) (a8)))
   have HK:=fun(W':World) (hb:Below W W W')=>a6 (h_x ks ks' ak ak' ck ck' css css' W' (hk.keep hb hb.size) (eX.keep hb hb.size _ _ p) (u.keep hb hb.size) (eX.keep hb hb.size _ _ j)
    (fun i h h' v v' W2 q1 q2=>IH ks[i] ks'[i] v v' W2 (aJ (jJ (NY h)) w) q1 q2))
   have b:=a6 d;clear IH n o hp ht hk p r s u j hm w d;by_cases hl:l=l'
   . subst hl
     by_cases g:ps=ps'
     . have HP:Hid _:=HP
       have e1:decide (ps=ps')=true:=decide_eq_true g;rw [e1]at HP Hs;clear e1 g;by_cases ht:t=t'
       . have e1:decide (t=t')=true:=decide_eq_true ht
         rw [e1]at HT Hs;clear e1 ht;have a:Hid (R=(decide (ks.length=ks'.length) && vY ks ks')):=VY
         clear Hs;generalize (decide (ks.length=ks'.length) && vY ks ks')=x at a HK
         cases l <;>
         . go_enter Tryz.func25,Tryz.ntmps25
           go_wp2_with fail;refine HP.o.mono ?_;rintro e w1 ⟨rfl,q,rfl⟩;have f:=HT q
           clear HP HT;go_wp2_with fail;refine f.o.mono ?_;rintro e w1 ⟨rfl,q2,rfl⟩;have c:=below_drewN b.o (q+q2)
           have y:=HK _ c;have z:=a6 c;clear f c HK b;go_wp2_with fail;refine y.o.mono ?_;rintro e w1 ⟨rfl,k⟩;have A:=a6 (eZ z.o k (a8))
           clear k y z;go_wp2_with fail;go_ret;exact⟨bJ (by rw [a.o]),A.o⟩
       have e1:decide (t=t')=false:=O3 ht;rw [e1]at HT Hs;clear e1 ht HK;have a:Hid (R=false):=VY
       cases l <;>
       . go_enter Tryz.func25,Tryz.ntmps25
         go_wp2_with fail;refine HP.o.mono ?_;rintro e w1 ⟨rfl,q,rfl⟩;have f:=HT q
         clear HP HT;go_wp2_with fail;refine f.o.mono ?_;rintro e w1 ⟨rfl,q2,rfl⟩;have c:=a6 (below_drewN b.o (q+q2))
         clear f b;go_wp2_with fail;go_ret;exact⟨bJ (by rw [a.o]),c.o⟩
     have e1:decide (ps=ps')=false:=O3 g;rw [e1]at HP Hs;clear e1 g HK HT;have a:Hid (R=false):=VY
     cases l <;>
     . go_enter Tryz.func25,Tryz.ntmps25
       go_wp2_with fail;refine HP.o.mono ?_;rintro e w1 ⟨rfl,q,rfl⟩;have c:=a6 (below_drewN b.o q)
       clear HP b;go_wp2_with fail;go_ret;exact⟨bJ (by rw [a.o]),c.o⟩
   have a:Hid (R=false):=by show _=_;rw [Hs.o];simp [hl]
   clear HP HT HK;have B:(l == l')=false:=ZX
   clear hl;go_enter Tryz.func25,Tryz.ntmps25;go_wp2_with fail;go_ret;exact⟨bJ (by rw [a.o]),b.o⟩
theorem e_0 (m : Nat):∀ (n1 n2:aX) (v1 v2:Value) (W:World),n1.wt <= m ->bY W W n1 v1 ->bY W W n2 v2 ->
 Calls Tryz.prog 24 #[v1,v2] W fun e w'=>e= .returned (rK n1 n2)/\Below W W w':=by
 induction m with
 | zero=>intro n1 n2 v1 v2 W hm;have:=J4 n1;omega
 | succ m IH =>
   intro n1 n2 v1 v2 W hm B C;obtain⟨l,ps,t,ks⟩:=n1;obtain⟨l',ps',t',ks'⟩:=n2;obtain⟨ap,cp,at_,ct,ak,ck,css,rfl,hp,ht,hk,D⟩:=B.open;obtain⟨ap',cp',at_',ct',ak',ck',css',rfl,E,F,r,x⟩:=C.open;have G:fY ks <= m:=s_W
   have Hs:=a6 (d_Y l l' ps ps' t t' ks ks');generalize rK (.mk l ps t ks) (.mk l' ps' t' ks')=R at Hs⊢;have hA:=(bV.fresh W l (ap,ps.length,cp) (at_,t.length,ct) (ak,ks.length,ck)).alloc (Obj.cells #[l',(ap',ps'.length,cp'),(at_',t'.length,ct'),(ak',ks'.length,ck')] 35);have hB:=rZ W (Obj.cells #[l,(ap,ps.length,cp),(at_,t.length,ct),(ak,ks.length,ck)] 35) l' (ap',ps'.length,cp') (at_',t'.length,ct') (ak',ks'.length,ck');have n:Below W W ((W.alloc (Obj.cells #[l,(ap,ps.length,cp),(at_,t.length,ct),(ak,ks.length,ck)] 35)).alloc (Obj.cells #[l',(ap',ps'.length,cp'),(at_',t'.length,ct'),(ak',ks'.length,ck')] 35)):=((a7).alloc (a8) _).alloc P6 _;have HP:=a6 (n_s ap ap' cp cp' _ ps ps' _ (hp.keep n (a8)) (E.keep n (a8)));have HT:=fun q=>a6 (p_S _ _ _ t t' _ (ht.keep (below_drewN n q) (a8)) (F.keep (below_drewN n q) (a8)))
   have Q:=hk.le;have H:=hk.max;have I:=r.le;have y:=r.max
   unfold maxLen at H y;have H1:ks.length <= 9223372036854775807:=P2
   have H2:ks'.length <= 9223372036854775807:=P2
   have HI:=a6 (fun(i:Nat) (h:i < ks.length) (h':i < ks'.length) (v v':Value) (W2:World) (q1:bY W2 W2 ks[i] v) (q2:bY W2 W2 ks'[i] v')=>IH ks[i] ks'[i] v v' W2 (aJ (jJ (NY h)) G) q1 q2);have Hk:=a6 hk;have S:=a6 r;have T:=a6 D;have J:=a6 x
   have o:=a6 n;have HA:=a6 hA;have HB:=a6 hB
   clear IH B C hp ht hk D E F r x hm G n hA hB Q H I y;by_cases hl:l=l'
   . subst hl
     by_cases s:ps=ps'
     . have e1 : decide (ps=ps')=true:=decide_eq_true s
       rw [e1]at HP Hs;clear e1 s;by_cases ht:t=t'
       . have e1 : decide (t=t')=true:=decide_eq_true ht
         rw [e1]at HT Hs;clear e1 ht;by_cases hlen:ks.length=ks'.length
         . have c :Hid (R=vY (ks.drop 0) (ks'.drop 0)):=by show _=_;rw [Hs.o];simp [hlen]
           have H3:ks'.length <= ks.length:=P2
           have Z:ks.length <= ks'.length:=P2
           have K:(((ks.length:Nat):Int) != (ks'.length:Int))=false:=by simp [hlen]
           clear Hs hlen;cases l <;>
           . go_enter Tryz.func24,Tryz.ntmps24
             go_wp2_with fail;refine HP.o.mono ?_;rintro e w1 ⟨rfl,q,rfl⟩;have d:=HT q
             clear HP HT;go_wp2_with fail;refine d.o.mono ?_;rintro e w1 ⟨rfl,q2,rfl⟩;have f:=a6 (below_drewN o.o (q+q2))
             clear d;go_wp2_with fail
             go_loopg [39] ks.length (fun g i wr=>∃k:Nat,i= .int .i64 k/\k+g=ks.length/\R=vY (ks.drop k) (ks'.drop k)/\bV wr W _ (ap,ps.length,cp) (at_,t.length,ct) (ak,ks.length,ck)/\bV wr (W+1) _ (ap',ps'.length,cp') (at_',t'.length,ct') (ak',ks'.length,ck')/\Below W W wr)
             case atStart=>exact⟨0,rfl,by omega,c.o,HA.o,HB.o,f.o⟩
             case round=>
              obtain⟨k,rfl,hg,hR,hA,hB,a⟩:=hrel;have HR:=a6 hR;have L:=a6 hA;have M:=a6 hB;have N:=a6 a
              obtain⟨x0,x1,x2,x3, -,H4⟩:=hA.facts;obtain⟨y0,y1,y2,y3, -,H5⟩:=hB.facts;clear hR hA hB HA HB c f;by_cases z:k < ks.length
              . have p:k < ks'.length:=P2
                have hW:=a.size;obtain⟨b,off,l1,a1,n1,c1,a2,n2,c2,a3,n3,c3,rfl,hb,hn,g0,g1,g2,g3⟩:=(Hk.o.keep a (a8)).kid_at (eX.keep a (a8) _ _ T.o) k z;obtain⟨b',off',l1',a1',n1',c1',a2',n2',c2',a3',n3',c3',rfl,H6,O,g0',g1',g2',g3'⟩:=(S.o.keep a (a8)).kid_at (eX.keep a (a8) _ _ J.o) k p;have HC:=a6 (fun(W':World) (u:Below wr wr W')=>HI.o k z p (.agg #[l1,(a1,n1,c1),(a2,n2,c2),(a3,n3,c3)]) (.agg #[l1',(a1',n1',c1'),(a2',n2',c2'),(a3',n3',c3')]) W' ⟨_,rfl,dY.keep (u.mono hW) (aJ hW u.size) _ _ hn⟩ ⟨_,rfl,dY.keep (u.mono hW) (aJ hW u.size) _ _ O⟩);have A:=a6 (d_X z p);generalize rK ks[k] ks'[k]=qq at HC A;have H0:(k:Int) < ks.length:=P2
                have U:(k:Int) < ks'.length:=P2
                clear hn O a;go_upto_region 6 with fail
                go_cut [53] (fun bb wx=>bb= .bool (!qq)/\Below wr wr wx)
                case first=>
                 go_region_law (first
                  | (refine bQ rfl 24 _ _ rfl P5 [Value.agg #[l1,(a1,n1,c1),(a2,n2,c2),(a3,n3,c3)],Value.agg #[l1',(a1',n1',c1'),(a2',n2',c2'),(a3',n3',c3')]] ?_ _ (HC.o _ ?_) ?_
                     . go_simp
                     . exact(a7).drew
                     rintro e w6 ⟨rfl,a⟩;refine⟨_,rfl, ?_⟩;have V:=a6 (((Below.refl wr wr).drew).trans a);clear a))
                 all_goals
                  go_wp2_with fail
                  go_meet
                  case rel=>exact⟨rfl,V.o⟩
                case rest=>
                 obtain⟨rfl,w⟩:=hcut;have X:=a6 (L.o.keep (w.mono P2));have Y:=a6 (M.o.keep (w.mono P2));have P:=a6 (eZ N.o w (a8))
                 clear w HC x0 x1 x2 x3 y0 y1 y2 y3 g0 g1 g2 g3 g0' g1' g2' g3' L M;cases qq with
                 | true=>
                   have j:Hid (R=vY (ks.drop (k+1)) (ks'.drop (k+1))):=by show _=_;rw [HR.o,A.o];simp
                   go_wp2_with fail
                   go_roundg (gk - 1)
                   case measure=>omega
                   case rel=>exact⟨k+1,by go_num,by omega,j.o,X.o,Y.o,P.o⟩
                 | false=>
                   have j:Hid (R=false):=by show _=_;rw [HR.o,A.o];simp
                   go_wp2_with fail;go_ret;exact⟨bJ j.o.symm,P.o⟩
              have j:Hid (R=true):=by show _=_;rw [HR.o,f_K P2]
              have H7:decide ((k:Int) < ks.length)=false:=P8
              clear a;go_wp2_with fail;go_ret;exact⟨bJ j.o.symm,N.o⟩
         have K:(((ks.length:Nat):Int) != (ks'.length:Int))=true:=P8
         have c:Hid (R=false):=by show _=_;rw [Hs.o];simp [hlen]
         clear Hs hlen;cases l <;>
         . go_enter Tryz.func24,Tryz.ntmps24
           go_wp2_with fail;refine HP.o.mono ?_;rintro e w1 ⟨rfl,q,rfl⟩;have d:=HT q
           clear HP HT;go_wp2_with fail;refine d.o.mono ?_;rintro e w1 ⟨rfl,q2,rfl⟩;have f:=a6 (below_drewN o.o (q+q2))
           clear d;go_wp2_with fail;go_ret;exact⟨bJ (by rw [c.o]),f.o⟩
       have e1:decide (t=t')=false:=O3 ht;rw [e1]at HT Hs;clear e1 ht;have c:Hid (R=false):=VY
       cases l <;>
       . go_enter Tryz.func24,Tryz.ntmps24
         go_wp2_with fail;refine HP.o.mono ?_;rintro e w1 ⟨rfl,q,rfl⟩;have d:=HT q
         clear HP HT;go_wp2_with fail;refine d.o.mono ?_;rintro e w1 ⟨rfl,q2,rfl⟩;have f:=a6 (below_drewN o.o (q+q2))
         clear d;go_wp2_with fail;go_ret;exact⟨bJ (by rw [c.o]),f.o⟩
     have e1:decide (ps=ps')=false:=O3 s;rw [e1]at HP Hs;clear e1 s HT;have c:Hid (R=false):=VY
     cases l <;>
     . go_enter Tryz.func24,Tryz.ntmps24
       go_wp2_with fail;refine HP.o.mono ?_;rintro e w1 ⟨rfl,q,rfl⟩;have f:=a6 (below_drewN o.o q)
       clear HP;go_wp2_with fail;go_ret;exact⟨bJ (by rw [c.o]),f.o⟩
   have c:Hid (R=false):=by show _=_;rw [Hs.o];simp [hl]
   clear HP HT Hs;cases l <;> cases l' <;> first
    | exact absurd rfl hl
    | (go_enter Tryz.func24,Tryz.ntmps24
       go_wp2_with fail;go_ret;exact⟨bJ (by rw [c.o]),o.o⟩)
def A6 (a b:Int):Int:=if a < b then -1 else if b < a then 1 else 0
def nY:List Int ->List Int ->Int
 | [], []=>0
 | [],_::_=> -1
 | _::_, []=>1
 | x::a,y::b=>if A6 x y=0 then nY a b else A6 x y
theorem AQ {x y:Int}:A6 x y=0 ↔ x=y:=t_M
theorem a_0 {x y:Int}:A6 x y < 0 ↔ x < y:=t_M
theorem K2:∀a:List Int,nY a a=0
 | []=>rfl
 | x::a=>by unfold nY;rw [if_pos (by simp [A6]),K2 a]
theorem g_D:∀ {a b:List Int},nY a b=0 ->a=b
 | [], [],_=>rfl
 | [],_::_,h=>by simp [nY]at h
 | _::_, [],h=>by simp [nY]at h
 | x ::a,y::b,h=>by
   unfold nY at h;split at h
   . rename_i h0
     rw [g_D h,AQ.1 h0]
   exact absurd h ‹_›
theorem f_L:∀a b:List Int,nY b a= -nY a b
 | [], []=>rfl
 | [],_::_=>rfl
 | _::_, []=>rfl
 | x::a,y::b=>by
   unfold nY;have:A6 y x= -A6 x y:=by unfold A6;split <;> (try split) <;> (try split) <;> omega
   rw [this];by_cases h:A6 x y=0
   . rw [if_pos h,if_pos P2,f_L a b]
   rw [if_neg h,if_neg P2]
theorem G7:∀ {a b c:List Int},nY a b < 0 ->nY b c < 0 ->nY a c < 0
 | [],_, [],h1,h2=>by
   rename_i b
   cases b with
   | nil=>simp [nY]at h1
   | cons y b=>simp [nY]at h2
 | [],_,_::_,h1,h2=>by simp [nY]
 | _::_, [],_,h1,h2=>by simp [nY]at h1
 | _::_,_::_, [],h1,h2=>by simp [nY]at h2
 | x ::a,y::b,z::c,h1,h2=>by
   unfold nY at h1 h2⊢;by_cases e1:A6 x y=0
   . obtain rfl:=AQ.1 e1
     rw [if_pos e1]at h1;by_cases e2:A6 x z=0
     . rw [if_pos e2]at h2⊢
       exact G7 h1 h2
     rw [if_neg e2]at h2⊢;exact h2
   rw [if_neg e1]at h1;have e:=a_0.1 h1
   by_cases e2:A6 y z=0
   . obtain rfl:=AQ.1 e2
     rw [if_neg e1];exact h1
   rw [if_neg e2]at h2;have f:=a_0.1 h2;have d:A6 x z < 0:=a_0.2 P2;rw [if_neg P2];exact d
theorem G8 (a b:List Int):nY a b < 0∨a=b∨nY b a < 0:=by
 rcases Int.lt_trichotomy (nY a b) 0 with h | h | h
 . exact .inl h
 . exact .inr (.inl (g_D h))
 exact .inr (.inr (by rw [f_L];omega))
theorem r_i (x:Int) (w:World):Calls Tryz.prog 253 #[x] w fun e w'=>e= .returned false/\w'=w:=by
 have a:(x != x)=false:=P6
 go_enter Tryz.func253,Tryz.ntmps253
 go_wp2_with fail;go_ret;exact⟨rfl,rfl⟩
theorem n_C (x y:Int) (w:World):Calls Tryz.prog 235 #[x,y] w fun e w'=>e= .returned (A6 x y)/\w'=w:=by
 have HX:=a6 (r_i x w);have HY:=a6 (r_i y w)
 obtain⟨z,hz⟩:∃z,z=A6 x y:=⟨_,rfl⟩;rw [<- hz];have Hz:=a6 (show (x < y ->z= -1)/\(¬x < y ->y < x ->z=1)/\(¬x < y ->¬y < x ->z=0)from⟨fun h=>by rw [hz,A6,if_pos h],fun h h'=>by rw [hz,A6,if_neg h,if_pos h'],fun h h'=>by rw [hz,A6,if_neg h,if_neg h']⟩)
 clear hz;go_enter Tryz.func235,Tryz.ntmps235;go_wp2_with fail;refine HX.o.mono ?_;rintro e w1 ⟨rfl,rfl⟩;go_wp2_with fail;refine HY.o.mono ?_;rintro e w1 ⟨rfl,rfl⟩;by_cases h1:x < y
 . have Hr:=a6 (Hz.o.1 P2)
   go_wp2_with fail;go_ret;exact⟨dV Hr.o.symm,rfl⟩
 by_cases h2:y < x
 . have Hr:=a6 (Hz.o.2.1 P2 P2)
   have h3:decide (x < y)=false:=O3 P2;go_wp2_with fail;go_ret;exact⟨dV Hr.o.symm,rfl⟩
 have Hr:=a6 (Hz.o.2.2 P2 P2);have h3:decide (x < y)=false:=O3 P2;have h4:decide (y < x)=false:=O3 P2;go_wp2_with fail;go_ret;exact⟨dV Hr.o.symm,rfl⟩
theorem l_L {xs ys:List Int} {k:Nat} (h1:k < xs.length) (h2:k < ys.length):nY (xs.drop k) (ys.drop k)=if A6 xs[k] ys[k]=0 then nY (xs.drop (k+1)) (ys.drop (k+1)) else A6 xs[k] ys[k]:=by
 rw [NX h1,NX h2];rfl
theorem r_D (xs ys:List Int) (a a':Option Addr) (cap cap' B:Nat) (w:World) (hr:RowA w B 1 a xs.length cap (xs.map (Value.int .i64))) (q:RowA w B 1 a' ys.length cap' (ys.map (Value.int .i64))):
 Calls Tryz.prog 247 #[(a,xs.length,cap),(a',ys.length,cap')] w fun e w'=>e= .returned (nY xs ys)/\w'=w:=by
 obtain⟨z,hz⟩:∃z,z=nY xs ys:=⟨_,rfl⟩;rw [<- hz];have Hz:=a6 hz
 clear hz;have r:=a6 (show xs.length <= 9223372036854775807 from aJ hr.le t_P)
 go_enter Tryz.func247,Tryz.ntmps247
 go_wp2_with fail
 go_loopg [11,5,6,7,8] xs.length (fun g i _ _ _ _ wr=>∃k:Nat,i= .int .i64 k/\k+g=xs.length/\k <= ys.length/\Hid (nY (xs.drop k) (ys.drop k)=z)/\wr=w)
 case atStart=>exact⟨0,rfl,by omega,by omega,Hz.o.symm,rfl⟩
 case round=>
  obtain⟨k,rfl,hg,v,f,rfl⟩:=hrel
  by_cases m:k < xs.length
  . have u:(k:Int) < xs.length:=P2
    obtain⟨b,off,rfl,hb,d⟩:=hr.int_at k m;have n:=d k m;rw [gK m]at n;clear d;by_cases l:k < ys.length
    ·
      have p:(k:Int) < ys.length:=P2
      have s:decide ((ys.length:Int) <= k)=false:=O3 P2;have A:IntKind.i64.wrap ((k:Int)+1)=(k:Int)+1:=IntWalk.i64_in _ (by have:=r.o;omega);obtain⟨b',off',rfl,C,d⟩:=q.int_at k l;have j:=d k l;rw [gK l]at j;clear d;have Hs:=a6 ((l_L m l).symm.trans f.o)
      have HC:=a6 (n_C xs[k] ys[k] wr);generalize xs[k]=x at n Hs HC;generalize ys[k]=y at j Hs HC;clear f;by_cases h0:A6 x y=0
      ·
        have o:=a6 (show nY (xs.drop (k+1)) (ys.drop (k+1))=z by have h:=Hs.o;rwa [if_pos h0]at h);rw [h0]at HC;clear Hs h0;go_wp2_with fail;refine HC.o.mono ?_;rintro e w1 ⟨rfl,rfl⟩;clear HC;go_wp2_with fail
        go_roundg (xs.length - (k+1))
        case measure=>omega
        case rel=>exact⟨k+1,by go_num,by omega,by omega,o,rfl⟩
      ·
        have o:=a6 (show A6 x y=z by have h:=Hs.o;rwa [if_neg h0]at h);have t:(A6 x y != 0)=true:=by simpa using h0
        clear Hs h0;generalize A6 x y=c at HC o t;go_wp2_with fail;refine HC.o.mono ?_;rintro e w1 ⟨rfl,rfl⟩;clear HC;go_wp2_with fail;go_ret;exact⟨dV o.o,rfl⟩
    ·
      obtain rfl:k=ys.length:=P2
      have s:decide ((ys.length:Int) <= ys.length)=true:=decide_eq_true P2;have Hs:=a6 (show (1:Int)=z by
       have h:=f.o;rw [List.drop_length,NX m]at h;exact h)
      clear f;go_wp2_with fail;go_ret;exact⟨dV Hs.o,rfl⟩
  ·
    obtain rfl:k=xs.length:=P2
    by_cases l:xs.length < ys.length
    . have p:(xs.length:Int) < ys.length:=P2
      have Hs:=a6 (show (-1:Int)=z by
       have h:=f.o;rw [List.drop_length,NX l]at h;exact h)
      clear f;go_wp2_with fail;go_ret;exact⟨dV Hs.o,rfl⟩
    have p:decide ((xs.length:Int) < ys.length)=false:=O3 P2;have Hs:=a6 (show (0:Int)=z by
     have h:=f.o;rw [List.drop_length,List.drop_of_length_le (show ys.length <= xs.length by omega)]at h;exact h)
    clear f;go_wp2_with fail;go_ret;exact⟨dV Hs.o,rfl⟩
theorem n_E (xs ys:List Int) (a a':Option Addr) (cap cap' B:Nat) (w:World) (hr:RowA w B 1 a xs.length cap (xs.map (Value.int .i64))) (b:RowA w B 1 a' ys.length cap' (ys.map (Value.int .i64))):
 Calls Tryz.prog 199 #[(a,xs.length,cap),(a',ys.length,cap')] w fun e w'=>e= .returned (nY xs ys)/\w'=w:=by
 have HC:=a6 (r_D xs ys a a' cap cap' B w hr b);clear hr b;go_enter Tryz.func199,Tryz.ntmps199;go_wp2_with fail;refine HC.o.mono ?_;rintro e w1 ⟨rfl,rfl⟩;go_wp2_with fail;go_ret;exact⟨rfl,rfl⟩
theorem k_U (a a':Option Addr) (cap cap' B:Nat) (xs ys:List Int) (w:World) (hr:RowA w B 1 a xs.length cap (xs.map (Value.int .i64))) (j:RowA w B 1 a' ys.length cap' (ys.map (Value.int .i64))):
 Calls Tryz.prog 38 #[(a,xs.length,cap),(a',ys.length,cap')] w fun e w'=>e= .returned (decide (xs=ys))/\pY w w':=by
 have hm:xs.length <= 9223372036854775807:=PQ
 have n:ys.length <= 9223372036854775807:=RJ
 by_cases hl:xs.length=ys.length
 . go_enter Tryz.func38,Tryz.ntmps38
   have o:ys.length <= xs.length:=P2
   have m:xs.length <= ys.length:=P2
   have l:(((xs.length:Nat):Int) != (ys.length:Int))=false:=XQ
   have Hl:=a6 hl;clear hl;go_wp2_with fail
   go_loopw [13] (fun i wr=>∃k:Nat,k <= xs.length/\i= .int .i64 k/\EZ xs ys k/\pY w wr) (fun i _=>xs.length - (intOf i).toNat)
   case atStart=>exact⟨0,Nat.zero_le _,rfl,E4 _ _,⟨0,rfl⟩⟩
   case round=>
    obtain⟨k,hk,rfl,hp,q,rfl⟩:=hrel;have Hp:=a6 hp;clear hp
    by_cases f:k < xs.length
    . obtain ⟨b,off,rfl,hb,d⟩:=hr.int_at k f
      obtain⟨b',off',rfl,p,c⟩:=j.int_at k P2;have d:=d k f;have c:=c k P2;have g:k < ys.length:=P2
      rw [gK f]at d;rw [gK g]at c;go_wp2_with fail
      by_cases he:xs[k]=ys[k]
      . have l:(xs[k] != ys[k])=false:=VQ
        have He:=a6 he;clear he
        go_quiet (fail)
        go_wp2_with fail
        go_roundw
        case rel=>exact⟨k+1,by omega,by go_num,E5 Hp.o f g He.o,by first | exact kY _ _ | exact j9 _ _ _⟩
        case measure=>simp [intOf];omega
      have l:(xs[k] != ys[k])=true:=VQ
      have He:=a6 he;clear he
      go_quiet (fail)
      go_wp2_with fail;go_ret;exact⟨bJ t_S,j9 _ _ _⟩
    go_wp2_with fail;go_ret;obtain rfl:k=xs.length:=P2
    exact⟨bJ WK,kY _ _⟩
 have l:(((xs.length:Nat):Int) != (ys.length:Int))=true:=P8
 have Hl:=a6 hl;clear hl
 go_enter Tryz.func38,Tryz.ntmps38
 go_wp2_with fail;go_ret;exact⟨bJ S5,CQ _⟩
theorem d_B (xs ys:List Int) (a a':Option Addr) (cap cap' B:Nat) (w:World) (hr:RowA w B 1 a xs.length cap (xs.map (Value.int .i64))) (b:RowA w B 1 a' ys.length cap' (ys.map (Value.int .i64))):
 Calls Tryz.prog 17 #[(a,xs.length,cap),(a',ys.length,cap')] w fun e w'=>e= .returned (decide (xs=ys))/\pY w w':=by
 have HC:=a6 (k_U a a' cap cap' B xs ys w hr b);clear hr b;go_enter Tryz.func17,Tryz.ntmps17;go_wp2_with fail;refine HC.o.mono ?_;rintro e w1 ⟨rfl,hd⟩;have Hd:=a6 hd
 clear hd;go_wp2_with fail;go_ret;exact⟨bJ P6,Hd.o⟩
def g9:List Int ->List Int ->Nat
 | x::a,y::b=>if x=y then 1+g9 a b else 0
 | [],_=>0
 | _::_, []=>0
theorem K3:∀a b:List Int,g9 a b <= a.length/\g9 a b <= b.length
 | [],b=>by simp [g9]
 | _::_, []=>by simp [g9]
 | x::a,y::b=>by
   have:=K3 a b;unfold g9;split <;> simp <;> omega
theorem d_6 {xs ys:List Int} {k:Nat} (h1:k < xs.length) (h2:k < ys.length):g9 (xs.drop k) (ys.drop k)=if xs[k]=ys[k] then 1+g9 (xs.drop (k+1)) (ys.drop (k+1)) else 0:=by
 rw [NX h1,NX h2];rfl
theorem e_1:∀ {a b:List Int},g9 a b=a.length ↔ a <+:b
 | [],b=>by simp [g9]
 | x::a, []=>by simp [g9]
 | x::a,y::b=>by
   unfold g9;rw [List.cons_prefix_cons, <- e_1 (a:=a) (b:=b)]
   split
   . rename_i h;simp [h];omega
   rename_i h;simp [h]
def kJ (a b:List Int):Bool:=decide (a.length < b.length) && decide (g9 a b=a.length)
theorem k_V (xs ys:List Int) (a a':Option Addr) (cap cap' B:Nat) (w:World) (hr:RowA w B 1 a xs.length cap (xs.map (Value.int .i64))) (s:RowA w B 1 a' ys.length cap' (ys.map (Value.int .i64))):
 Calls Tryz.prog 193 #[(a,xs.length,cap),(a',ys.length,cap')] w fun e w'=>e= .returned (g9 xs ys:Nat)/\pY w w':=by
 obtain⟨z,hz⟩:∃z,z=g9 xs ys:=⟨_,rfl⟩;rw [<- hz];have Hz:=a6 hz
 have t:=a6 (show xs.length <= 9223372036854775807 from aJ hr.le t_P);have H:=a6 (K3 xs ys)
 by_cases u:xs.length <= ys.length
 . have v:(xs.length:Int) <= ys.length:=P2
   have p:=a6 u;clear hz;go_enter Tryz.func193,Tryz.ntmps193;go_wp2_with fail
   go_loopg [11,5] xs.length (fun g i _ wr=>∃k:Nat,i= .int .i64 k/\k+g=xs.length/\Hid (k+g9 (xs.drop k) (ys.drop k)=z)/\pY w wr)
   case atStart=>exact⟨0,rfl,by omega,(show 0+g9 xs ys=z by rw [Hz.o];omega),⟨0,rfl⟩⟩
   case round=>
    obtain⟨k,rfl,hg,m,q,rfl⟩:=hrel
    by_cases E:k < xs.length
    . have A:(k:Int) < xs.length:=P2
      have n:k < xs.length:=t_8
      have o:k < ys.length:=t_8
      have C:(k:Int) < xs.length:=P2
      have D:(k:Int) < ys.length:=P2
      obtain⟨b,off,rfl,hb,d⟩:=hr.int_at k n;have l:=d k n;obtain⟨b',off',rfl,F,f⟩:=s.int_at k o;have j:=f k o;rw [gK n]at l;rw [gK o]at j;have Hs:=a6 (show k+(if xs[k]=ys[k] then 1+g9 (xs.drop (k+1)) (ys.drop (k+1)) else 0)=z by rw [<- d_6 n o];exact m.o)
      have G:IntKind.i64.wrap ((k:Int)+1)=(k:Int)+1:=IntWalk.i64_in _ (by have:=t.o;omega);generalize xs[k]=x at l Hs;generalize ys[k]=y at j Hs;clear d f m;by_cases he:x=y
      . have r:(x != y)=false:=VQ
        have c:=a6 (show (k+1)+g9 (xs.drop (k+1)) (ys.drop (k+1))=z by have h:=Hs.o;rw [if_pos he]at h;omega);have He:=a6 he;clear he Hs;go_wp2_with fail
        go_quiet (fail)
        go_wp2_with fail
        go_roundg (xs.length - (k+1))
        case measure=>omega
        case rel=>exact⟨k+1,by go_num,by omega,c,by first | exact kY _ _ | exact j9 _ _ _⟩
      have r:(x != y)=true:=VQ
      have c:=a6 (show k=z by have h:=Hs.o;rw [if_neg he]at h;omega);clear he Hs;go_wp2_with fail
      go_quiet (fail)
      go_wp2_with fail;go_ret;exact⟨dV T8,by first | exact kY _ _ | exact j9 _ _ _⟩
    obtain rfl:k=xs.length:=P2
    have c:=a6 (show xs.length=z by
     have h:=m.o;have h2:=K3 (xs.drop xs.length) (ys.drop xs.length);rw [List.length_drop,List.length_drop]at h2;omega)
    clear m;go_wp2_with fail;go_ret;exact⟨dV T8,by first | exact kY _ _ | exact j9 _ _ _⟩
 have v:¬ (xs.length:Int) <= ys.length:=P2
 have p:=a6 u;clear hz;go_enter Tryz.func193,Tryz.ntmps193;go_wp2_with fail
 go_loopg [11,5] ys.length (fun g i _ wr=>∃k:Nat,i= .int .i64 k/\k+g=ys.length/\Hid (k+g9 (xs.drop k) (ys.drop k)=z)/\pY w wr)
 case atStart=>exact⟨0,rfl,by omega,(show 0+g9 xs ys=z by rw [Hz.o];omega),⟨0,rfl⟩⟩
 case round=>
  obtain⟨k,rfl,hg,m,q,rfl⟩:=hrel
  by_cases E:k < ys.length
  . have A:(k:Int) < ys.length:=P2
    have n:k < xs.length:=t_8
    have o:k < ys.length:=t_8
    have C:(k:Int) < xs.length:=P2
    have D:(k:Int) < ys.length:=P2
    obtain⟨b,off,rfl,hb,d⟩:=hr.int_at k n;have l:=d k n;obtain⟨b',off',rfl,F,f⟩:=s.int_at k o;have j:=f k o;rw [gK n]at l;rw [gK o]at j;have Hs:=a6 (show k+(if xs[k]=ys[k] then 1+g9 (xs.drop (k+1)) (ys.drop (k+1)) else 0)=z by rw [<- d_6 n o];exact m.o)
    have G:IntKind.i64.wrap ((k:Int)+1)=(k:Int)+1:=IntWalk.i64_in _ (by have:=t.o;omega);generalize xs[k]=x at l Hs;generalize ys[k]=y at j Hs;clear d f m;by_cases he:x=y
    . have r:(x != y)=false:=VQ
      have c:=a6 (show (k+1)+g9 (xs.drop (k+1)) (ys.drop (k+1))=z by have h:=Hs.o;rw [if_pos he]at h;omega);have He:=a6 he;clear he Hs;go_wp2_with fail
      go_quiet (fail)
      go_wp2_with fail
      go_roundg (ys.length - (k+1))
      case measure=>omega
      case rel=>exact⟨k+1,by go_num,by omega,c,by first | exact kY _ _ | exact j9 _ _ _⟩
    have r:(x != y)=true:=VQ
    have c:=a6 (show k=z by have h:=Hs.o;rw [if_neg he]at h;omega);clear he Hs;go_wp2_with fail
    go_quiet (fail)
    go_wp2_with fail;go_ret;exact⟨dV T8,by first | exact kY _ _ | exact j9 _ _ _⟩
  obtain rfl:k=ys.length:=P2
  have c:=a6 (show ys.length=z by
   have h:=m.o;have h2:=K3 (xs.drop ys.length) (ys.drop ys.length);rw [List.length_drop,List.length_drop]at h2;omega)
  clear m;go_wp2_with fail;go_ret;exact⟨dV T8,by first | exact kY _ _ | exact j9 _ _ _⟩
theorem g_E (xs ys:List Int) (a a':Option Addr) (cap cap' B:Nat) (w:World) (hr:RowA w B 1 a xs.length cap (xs.map (Value.int .i64))) (d:RowA w B 1 a' ys.length cap' (ys.map (Value.int .i64))):
 Calls Tryz.prog 136 #[(a,xs.length,cap),(a',ys.length,cap')] w fun e w'=>e= .returned (kJ xs ys)/\pY w w':=by
 have HC:=a6 (k_V xs ys a a' cap cap' B w hr d);clear hr d;unfold kJ;by_cases b:xs.length < ys.length
 . have f:(xs.length:Int) < ys.length:=P2
   obtain⟨z,hz⟩:∃z,z=g9 xs ys:=⟨_,rfl⟩;rw [<- hz]at HC⊢;have c:=a6 (decide_eq_true b)
   have g:((z:Int) == (xs.length:Int))=decide (z=xs.length):=by
    by_cases h:z=xs.length
    . subst h;simp
    rw [O3 h];simp;omega
   clear hz b;go_enter Tryz.func136,Tryz.ntmps136;go_wp2_with fail;refine HC.o.mono ?_;rintro e w1 ⟨rfl,hd⟩;have Hd:=a6 hd
   clear hd;go_wp2_with fail;go_ret;exact⟨bJ (by rw [c.o];simp),Hd.o⟩
 have f:¬ (xs.length:Int) < ys.length:=P2
 have c:=a6 (O3 b);clear b HC;go_enter Tryz.func136,Tryz.ntmps136;go_wp2_with fail;go_ret;exact⟨bJ (by rw [c.o];simp),⟨0,rfl⟩⟩
theorem At.setCells {b:Nat} {T:TypeId}:∀ (vs:List Value) (o:Nat) (w:World) (cs:List Value),At w b cs T ->∃cs',cs'.length=cs.length/\cs'.take o=cs.take o/\At (w.setCells b o vs) b cs' T
 | [],o,w,cs,h=>⟨cs,rfl,rfl,h⟩
 | v::vs,o,w,cs,h=>by
   obtain⟨cs',h1,h2,h3⟩:=At.setCells vs (o+1) (w.setCell (b,o) v) (cs.set o v) (h.set o v);refine⟨cs',by rw [h1,List.length_set], ?_,h3⟩;have h4:=congrArg (List.take o) h2;rw [List.take_take,List.take_take,O8 P2]at h4;rw [h4,List.take_set_of_le (a8)]
theorem _root_.Go.World.grownBy.setCells {w0:World} {b:Nat}:∀ (vs:List Value) (o:Nat) (w:World),w0.grownBy w (some b) ->w0.grownBy (w.setCells b o vs) (some b)
 | [],o,w,h=>h
 | v::vs,o,w,h=>World.grownBy.setCells vs (o+1) _ (h.set o v)
theorem lV.cut {w:World} {M L b cap i n:Nat} {zs:List PX} {tl:List Value} (hM:M <= b) (hA:At w b (zs.map C5 ++ tl) 36) (hl:zs.length+tl.length=cap) (hm:cap <= maxLen) (hi:i <= zs.length) (hq:∀x∈zs,N5 w (fun k=>L <= k/\k≠b) x) (vs:List Value):
 lV (w.setCells b i vs) M L (b,(zs.take i).length,cap) (zs.take i):=by
 obtain⟨cs',h1,h2,h3⟩:=hA.setCells vs i;have h4:cs'=(zs.take i).map C5 ++ cs'.drop i:=by
  have h5:=List.take_append_drop i cs';rw [h2,List.take_append_of_le_length R4, <- List.map_take]at h5;exact h5.symm
 rw [h4]at h3;refine lV.shut hM h3 ?_ hm fun x hx=>(hq x (List.mem_of_mem_take hx)).grown ((World.grownBy.refl w _).setCells vs i w)
 simp at h1⊢
 omega
theorem h_y (n:Nat) (a:Option Addr) (cap cb:Nat) (caps:Array Value) (pred:Nat ->Bool) (W:World) (hn:n <= 100000000) (p:∀args w,(callFunc cb args).run Tryz.prog w= .ok (.enter cb args) w)
 (H:∀ (k:Nat) (W':World),k < n ->Below W W W' ->∃b off c0,a=some ⟨b,off,none⟩/\W'.cell? ⟨b,off+k,none⟩=some c0/\Calls Tryz.prog cb (#[c0] ++ caps) W' fun e w'=>e= .returned (pred k)/\Below W' W' w'):
 Calls Tryz.prog 192 #[(a,n,cap), .func (.func cb) #[] caps] W fun e w'=>e= .returned (uZ pred n)/\Below W W w':=by
 have HH:=a6 H;clear H;go_enter Tryz.func192,Tryz.ntmps192;go_wp2_with fail
 go_loopg [8] n (fun g i wr=>∃k:Nat,k+g=n/\i= .int .i64 k/\(∀j,j < k ->pred j=false)/\Below W W wr)
 case atStart=>exact⟨0,by omega,rfl,by intro j hj;omega,a7⟩
 case round=>
  obtain⟨k,hg,rfl,hb,f⟩:=hrel;have d:=a6 f;have Hb:=a6 hb
  by_cases m:k < n
  . obtain ⟨b,off,c0,rfl,h0,hC⟩:=HH.o k wr m f
    have o:(k:Int) < n:=P2
    clear hb f HH;cases hp:pred k with
    | true=>
      rw [hp]at hC;have HC:=a6 hC
      have Hr:=a6 (vQ m hp Hb.o);clear hC hp;go_wp2_with fail;refine HC.o.mono ?_;rintro e w1 ⟨rfl,c⟩;have l:=a6 (d.o.trans (c.mono d.o.size))
      clear c HC;go_wp2_with fail;go_ret;exact⟨dV Hr.o.symm,l.o⟩
    | false=>
      rw [hp]at hC;have HC:=a6 hC
      have Hr:=a6 (show ∀j,j < k+1 ->pred j=false from fun j hj=>by
       rcases Nat.lt_or_ge j k with h | h
       . exact Hb.o j h
       obtain rfl:j=k:=P2
       exact hp)
      clear hC hp;go_wp2_with fail;refine HC.o.mono ?_;rintro e w1 ⟨rfl,c⟩;have l:=a6 (d.o.trans (c.mono d.o.size))
      clear c HC;go_wp2_with fail
      go_roundg (gk - 1)
      case measure=>omega
      case rel=>exact⟨k+1,by omega,by go_num,Hr.o,l.o⟩
  obtain rfl:k=n:=P2
  have Hr:=a6 (tK hb);clear hb f HH;go_wp2_with fail;go_ret;exact⟨dV Hr.o.symm,d.o⟩
abbrev px0:PX:=([],none,0)
theorem L9 {xs:List PX} {k:Nat} (hk:k < xs.length):xs.getD k px0=xs[k]:=by simp [List.getD,NV hk]
theorem xZ {w:World} {b:Nat} {xs:List PX} {tl:List Value} {T:TypeId} (h:At w b (xs.map C5 ++ tl) T) (k:Nat) (hk:k < xs.length):w.cell? (b,k)=some (C5 xs[k]):=
 h.cell k (by rw [List.getElem?_append_left UQ];simp [NV hk])
def s_i (W:World) (M L:Nat) (v:Value) (l:List PX) (e:Ending) (w':World):Prop:=
 ∃v',e= .returned v'/\lV w' M L v' l/\(∀k,v'.ownBlock=some k ->v.ownBlock=some k)/\W.grownBy w' v.ownBlock
theorem j_m (g:Nat) (lb:Array Value) (p:PX ->Bool) (M L:Nat) (v:Value) (xs:List PX) (W:World) (hg:∀args w,(callFunc g args).run Tryz.prog w= .ok (.enter g args) w) (hx:lV W M L v xs) (hn:xs.length <= 100000000)
 (hp:∀x∈xs,∀W',W.grownBy W' v.ownBlock ->Calls Tryz.prog g (#[C5 x] ++ lb) W' fun e w'=>e= .returned (p x)/\Below W' W' w'):
 Calls Tryz.prog 134 #[v, .func (.func g) #[] lb] W (s_i W M L v (xs.filter fun x=> !p x)):=by
 rcases hx.open with⟨rfl,rfl⟩ | ⟨b,cap,tl,rfl,S,hA,B,T⟩
 . have HI:=a6 (h_y 0 none 0 g lb (fun _=>false) W P2 hg (fun k W' hk=>by omega))
   rw [show uZ (fun _=>false) 0= -1 by rfl]at HI;clear hp hx hn hg;go_enter Tryz.func134,Tryz.ntmps134;go_wp2_with fail;refine HI.o.mono ?_;rintro e w1 ⟨rfl,a⟩;have Hb:=a6 a
   clear a HI;go_wp2_with fail;go_ret;exact⟨_,rfl,lV.nil _ _ _,fun k hk=>hk,cX Hb.o⟩
 have C:∀x∈xs,N5 W (fun k=>L <= k/\k≠b) x:=fun x d=>qJ (hx.all x d) fun k hk=>⟨hk.1,fun e=>hk.2 t_h⟩
 have o:(Value.slice b xs.length cap).ownBlock=some b:=rfl;rw [o]at hp;have HI:=a6 (h_y xs.length b cap g lb (fun k=>p (xs.getD k px0)) W hn hg (fun k W' hk hb=>by
  refine⟨b,0,C5 xs[k],rfl, ?_, ?_⟩
  . rw [O5];exact xZ (hA.kept hb) k hk
  rw [L9 hk];exact hp _ (NY hk) W' (cX hb)))
 have HA:=a6 hA;have U:=a6 C;have HP:=a6 hp
 rcases jV (fun k=>p (xs.getD k px0)) xs.length with⟨k0,G,ht,hb,he⟩ | ⟨hb,he⟩
 . rw [he] at HI
   have H:p xs[k0]=true:=by have h:=ht;simp only [L9 G]at h;exact h
   have t:=a6 (show xs.take k0=(xs.take (k0+1)).filter (fun x=> !p x)by
    rw [O1 G,List.filter_append,List.filter_cons_of_neg (by simp [H]),List.filter_nil,List.append_nil];refine(List.filter_eq_self.2 fun x d=> ?_).symm;obtain⟨k,hk,rfl⟩:=List.mem_iff_getElem.1 d;have V:k < k0:=u_b
    have:=hb k V;rw [L9 P2]at this
    simp [this])
   have H0:((k0:Int) == -1)=false:=beq_eq_false_iff_ne.2 P2;clear hp hx hb he hA C o ht H;go_enter Tryz.func134,Tryz.ntmps134;go_wp2_with fail;refine HI.o.mono ?_;rintro e w1 ⟨rfl,a⟩;have X:=a6 (HA.o.kept a)
   have Y:=a6 (cX (r:=some b) a);clear a HI;go_wp2_with fail
   go_loopg [5,6,7] xs.length (fun gg s5 s6 _ wr=>∃ (i j:Nat) (zs:List PX),s5= .int .i64 i/\s6= .int .i64 j/\zs.length=xs.length/\i < j/\j <= xs.length/\xs.length - j <= gg/\Hid (zs.take i=(xs.take j).filter (fun x=> !p x))/\Hid (zs.drop j=xs.drop j)/\Hid (∀z∈zs,z∈xs)/\Hid (At wr b (zs.map C5 ++ tl) 36)/\Hid (W.grownBy wr (some b)))
   case atStart=>exact⟨k0,k0+1,xs,rfl,by go_num,rfl,by omega,by omega,by omega,t,rfl,fun z hz=>hz,X,Y⟩
   case round=>
    obtain⟨i,j,zs,rfl,rfl,I,H4,H5,H6,f,l,q,c,m⟩:=hrel
    by_cases y:j < xs.length
    . have H1:(j:Int) < (xs.length:Int):=P2
      have J:(i:Int) < (xs.length:Int):=P2
      have A:zs[j]=xs[j]:=by
       have h:=l.o;rw [NX y,NX P2]at h;exact(List.cons.inj h).1
      have cj:=xZ c.o j P2;have ci:=xZ c.o i P2;have cf:wr.frozen? (b,i)=false:=Lib.frozen_of_heap c.o _;rw [A]at cj;have hC:=HP.o xs[j] (NY y) wr m.o
      have K:=a6 (show xs[j]∈xs from NY y);have D:=a6 (show xs.take (j+1)=xs.take j ++ [xs[j]]from O1 y);have H2:(C5 xs[j]).cells= #[C5 xs[j]]:=rfl;have H7:=a6 (At.lt c.o);generalize xs[j]=u at cj hC A K D;generalize zs[i]=old at ci;obtain⟨zu,za,zc⟩:=u
      cases hq:p (zu,za,zc)with
      | false=>
        rw [hq]at hC;have HC:=a6 hC;have HQ:=a6 hq
        unfold C5 at cj HC;clear hC hq A ci cf;go_wp2_with fail;refine HC.o.mono ?_;rintro e w2 ⟨rfl,a⟩;have s:=a6 (c.o.kept a);have E:=a6 (m.o.then a)
        have ci:=xZ s.o i P2;have cf:w2.frozen? (b,i)=false:=Lib.frozen_of_heap s.o _;have F:i < zs.length:=P2
        generalize zs[i]=old at ci;clear a HC cj;go_wp2_with fail
        go_roundg (xs.length - (j+1))
        case measure=>omega
        case rel=>
         refine⟨i+1,j+1,zs.set i (zu,za,zc),by go_num,by go_num,by rw [List.length_set];exact I,by omega,by omega,a8, ?_, ?_, ?_, ?_,E.o.set i _⟩
         . show (zs.set i (zu,za,zc)).take (i+1)=(xs.take (j+1)).filter (fun x=> !p x)
           rw [D.o,List.filter_append,List.filter_cons_of_pos (by simp [HQ.o]),List.filter_nil, <- f.o,List.take_set,O1 F,List.set_append_right _ _ P8]
           simp [O8 (Nat.le_of_lt F)]
         . show (zs.set i (zu,za,zc)).drop (j+1)=xs.drop (j+1)
           rw [List.drop_set_of_lt P2, <- List.drop_drop, <- List.drop_drop,l.o]
         . intro z hz
           rcases List.mem_or_eq_of_mem_set hz with h | h
           . exact q.o z h
           rw [h];exact K.o
         show At _ b ((zs.set i (zu,za,zc)).map C5 ++ tl) 36
         have h:=s.o.set i (C5 (zu,za,zc));rw [List.set_append_left _ _ (by simpa using F), <- List.map_set]at h;exact h
      | true=>
        rw [hq]at hC;have HC:=a6 hC;have HQ:=a6 hq
        unfold C5 at cj HC;clear hC hq ci cf A;go_wp2_with fail;refine HC.o.mono ?_;rintro e w2 ⟨rfl,a⟩;have s:=a6 (c.o.kept a);have E:=a6 (m.o.then a)
        clear a HC cj;go_wp2_with fail
        go_roundg (xs.length - (j+1))
        case measure=>omega
        case rel=>
         refine⟨i,j+1,zs,rfl,by go_num,I,by omega,by omega,a8, ?_, ?_,q,s,E⟩
         . show zs.take i=(xs.take (j+1)).filter (fun x=> !p x)
           rw [D.o,List.filter_append,List.filter_cons_of_neg (by simp [HQ.o]),List.filter_nil,List.append_nil];exact f.o
         show zs.drop (j+1)=xs.drop (j+1)
         rw [<- List.drop_drop, <- List.drop_drop,l.o]
    obtain rfl:j=xs.length:=P2
    have H3:¬ (xs.length:Int) < (xs.length:Int):=P2
    have J:(i:Int) <= (xs.length:Int):=P2
    have B:=fun ty=>Lib.run_clear_slice (P:=Tryz.prog) wr 47 36 ty () Tryz.underlying47 (fun w=>by kernel_rfl) rfl rfl b (0+i) (xs.length - i) (cap - i) P2 (fun k hk=>by
     have:=xZ c.o (i+k) P2;rw [O5,this];rfl) (fun k hk=>Lib.frozen_of_heap c.o _)
    rw [O5]at B;have N:=a6 (lV.cut (i:=i) (n:=xs.length) S c.o P2 T P2 (fun x d=>(U.o x (q.o x d)).grown m.o))
    have Z:=a6 (fun vs=>World.grownBy.setCells vs i wr m.o);have O:=a6 (show zs.take i=xs.filter (fun x=> !p x)by have:=f.o;rwa [List.take_length]at this);have Q:Hid ((zs.take i).length=i):=by show _=_;simp;omega
    obtain⟨vs,R⟩:∃vs,vs=List.replicate (xs.length - i) (Value.slice none 0 0):=⟨_,rfl⟩;rw [<- R]at B;clear c m R;go_wp2_with fail;go_ret;rw [<- O.o];refine⟨.slice b (zs.take i).length cap,by rw [Q.o];rfl,N.o vs,fun k hk=>hk,Z.o vs⟩
 rw [he]at HI;have Hf:=a6 (show xs.filter (fun x=> !p x)=xs from List.filter_eq_self.2 fun x d=>by
  obtain⟨k,hk,rfl⟩:=List.mem_iff_getElem.1 d;have:=hb k hk;rw [L9 hk]at this;simp [this])
 have Hx:=a6 hx;clear hp hx hg hb he hA C o HP;go_enter Tryz.func134,Tryz.ntmps134;go_wp2_with fail;refine HI.o.mono ?_;rintro e w1 ⟨rfl,a⟩;have Hb:=a6 a
 clear a HI;go_wp2_with fail;go_ret;rw [Hf.o];exact⟨_,rfl,Hx.o.below Hb.o,fun k hk=>hk,cX Hb.o⟩
theorem b_6 {P:Program} {ops:Array Oper} {o:Oper} {a:Act} {w:World} {K:Act ->World ->Prop} {Q:Exit ->Act ->World ->Prop} {E:Prop}
 (hg:o.guard=none) (f:FuncId) (s:Operand) (caps:Array Value) (args:Array Operand) (tys:Array TypeId) (ho:o.op= .call { callee:= .value s,args:=args,argTypes:=tys }) (hs:a.eval s= .func (.func f) #[] caps)
 (he:∀args w,(callFunc f args).run P w= .ok (.enter f args) w) (vals:List Value) (hv:args.toList.map a.eval=vals) (R:Ending ->World ->Prop) (hC:Calls P f (vals.toArray ++ caps) w R)
 (h:∀e w',R e w' ->∃v,e= .returned v/\K (a.put o.dst v) w'):if Region.wanted o (yielded ops a.tmps)=true then Oper.wp P o a w K Q else E:=by
 have hw:Region.wanted o (yielded ops a.tmps)=true:=S4
 rw [if_pos hw];unfold Oper.wp;have b:args.map a.eval=vals.toArray:=VX
 have hr:(execOp a.eval o).run P w= .ok (.enter f (vals.toArray ++ caps)) w:=by
  simp [execOp,ho,resolve,invoke,hs,Deferred.ofValue,b,he]
 rw [hr];show Calls P f (vals.toArray ++ caps) w _;refine hC.mono fun e w' hR=> ?_
 obtain⟨v,rfl,hk⟩:=h e w' hR;exact hk
theorem E9:(Tryz.prog.info? 36).map (fun i=>(i.zero,i.size,i.bytes))=some (some (.slice none 0 0),1,24):=P3
def n_F (B cb:Nat) (caps:Array Value) (want:aX ->Bool) (M:Nat):Prop:=
 ∀ (n:aX) (v:Value) (W:World),n.wt <= M ->bY W B n v ->B <= W.heap.size ->Calls Tryz.prog cb (#[v] ++ caps) W fun e w'=>e= .returned (want n)/\Below W W w'
structure uJ (W:World) (tb ob eb cb:Nat) (caps:Array Value) (M:Nat) (l:List (List Int)) (ov:Value) (cs:List Value):Prop where
 t:W.heap[tb]? =some (Obj.cells #[.func (.func cb) #[] caps] 94 (0,0))
 e:W.heap[eb]? =some (Obj.cells #[.func (.func 204) #[] #[.pointer tb, .pointer ob, .pointer eb]] 231 (0,0))
 o:W.heap[ob]? =some (Obj.cells #[ov] 47 (0,0))
 own:W.ownsRow M 36 1 ov l.length cs
 rows:tQ W (fun b=>M <= b/\ov.ownBlock≠some b) l cs
 lt:tb < M/\ob < M/\eb < M/\tb≠ob/\eb≠ob
theorem uJ.below {W W':World} {tb ob eb cb M:Nat} {caps:Array Value} {l:List (List Int)} {ov:Value} {cs:List Value} (h:uJ W tb ob eb cb caps M l ov cs) (hb:Below W W W'):uJ W' tb ob eb cb caps M l ov cs:=
 ⟨by rw [hb.block _ (Array.getElem?_eq_some_iff.1 h.t).1];exact h.t,by rw [hb.block _ (Array.getElem?_eq_some_iff.1 h.e).1];exact h.e,by rw [hb.block _ (Array.getElem?_eq_some_iff.1 h.o).1];exact h.o,
  kQ h.own hb,h.rows.keep hb.size (fun b _ a=>hb.block b a) (fun _ hb _=>hb),h.lt⟩
theorem uJ.cells {W:World} {tb ob eb cb M:Nat} {caps:Array Value} {l:List (List Int)} {ov:Value} {cs:List Value} (h:uJ W tb ob eb cb caps M l ov cs):
 W.cell? tb=some (.func (.func cb) #[] caps)/\W.cell? eb=some (.func (.func 204) #[] #[.pointer tb, .pointer ob, .pointer eb])/\
  W.cell? ob=some ov/\W.frozen? ob=false/\tb < W.heap.size/\ob < W.heap.size/\eb < W.heap.size:=
 ⟨by rw [cell_of_row _ _ _ _ _ _ h.t];rfl,by rw [cell_of_row _ _ _ _ _ _ h.e];rfl,by rw [cell_of_row _ _ _ _ _ _ h.o];rfl,Lib.frozen_of_heap h.o _,(Array.getElem?_eq_some_iff.1 h.t).1,(Array.getElem?_eq_some_iff.1 h.o).1,(Array.getElem?_eq_some_iff.1 h.e).1⟩
theorem uJ.notOwn {W:World} {tb ob eb cb M:Nat} {caps:Array Value} {l:List (List Int)} {ov:Value} {cs:List Value} (h:uJ W tb ob eb cb caps M l ov cs) {b:Nat} (hb:b < M∨W.heap.size <= b):ov.ownBlock≠some b:=by
 intro e;have:=h.own.lt b e;omega
theorem uJ.push {w1 w2 w3:World} {tb ob eb cb M:Nat} {caps:Array Value} {l:List (List Int)} {ov v':Value} {cs:List Value} {zs:List Int} {pa:Option Addr} {pc:Nat} {o:Obj}
 (h:uJ w1 tb ob eb cb caps M l ov cs) (hM:M <= w1.heap.size) (h1:Below w1 w1 w2) (hr:RowQ w2 (fun b=>w1.heap.size <= b) 1 pa zs.length pc (zs.map (Value.int .i64)))
 (hg:(w2.alloc o).grownBy w3 ov.ownBlock) (j:w3.ownsRow M 36 1 v' (l.length+1) (cs ++ [.slice pa zs.length pc])) (hw:v'.ownBlock=ov.ownBlock∨ ∀k,v'.ownBlock=some k ->(w2.alloc o).heap.size <= k):
 uJ (w3.setCell ob v') tb ob eb cb caps M (l ++ [zs]) v' (cs ++ [.slice pa zs.length pc])/\K0 ob ov v' w1 (w3.setCell ob v'):=by
 have s1:=h1.size;have c:=(Below.refl w2 w2).alloc (a8) o;have s2:=c.size;have s3:=hg.size
 obtain⟨l1,l2,l3,n1,n2⟩:=h.lt;have d:∀b,b < w1.heap.size ->ov.ownBlock≠some b ->w3.heap[b]? =w1.heap[b]? :=fun b hb g=>by
  rw [hg.block b P2 (fun e=>g e.symm),c.block b P2,h1.block b hb]
 have f:∀b,b≠ob ->(w3.setCell ob v').heap[b]? =w3.heap[b]? :=fun b hb=>Below.heap_setCell _ ob _ b hb
 have p:w3.heap[ob]? =some (Obj.cells #[ov] 47 (0,0)):=by rw [d ob P2 (h.notOwn (.inl l2))];exact h.o
 have m:=l_A h.own h1 c hg hw;have n:=n_k h.own hM c hg hw;have g:∀b,M <= b ->b≠ob:=fun b hb=>by omega
 refine⟨⟨?_, ?_, ?_, ?_, ?_,h.lt⟩,⟨?_, ?_, ?_, ?_,fun b hb g hv=> ?_, ?_⟩⟩
 . rw [f tb n1,d tb P2 (h.notOwn (.inl l1))];exact h.t
 . rw [f eb n2,d eb P2 (h.notOwn (.inl l3))];exact h.e
 . exact Lib.heap_setCell_same (i:=0) p _
 . rw [NZ]
   exact ownsRow_setCell_below (a:=ob) j l2 _
 . have hq:tQ w3 (fun b=>M <= b/\v'.ownBlock≠some b) (l ++ [zs]) (cs ++ [.slice pa zs.length pc]):=tQ.snoc (hr.stay n) (h.rows.stay m)
   exact hq.keep R9 (fun b hb _=>f b (g b hb.1)) (fun b hb _=>hb)
 . show w3.os=_;rw [hg.os,c.os,h1.os]
 . show w3.tape=_;rw [hg.tape,c.tape,h1.tape]
 . show w3.output=_;rw [hg.output,c.output,h1.output]
 . simp [World.setCell];omega
 . rw [f b g];exact d b hb hv
 rcases hw with e | e
 . exact .inl e
 exact .inr fun k hk=>by have:=e k hk;omega
def n_G (tb ob eb cb:Nat) (caps:Array Value) (M:Nat) (ov:Value) (W:World) (l':List (List Int)) (e:Ending) (w':World):Prop:=
 e= .returned (.tuple #[])/\∃ov' cs',uJ w' tb ob eb cb caps M l' ov' cs'/\K0 ob ov ov' W w'
theorem h_A {want:aX ->Bool} {ks:List aX} {k:Nat} {p:List Int} (h:k < ks.length):kV want (ks.drop k) k p=jZ want ks[k] (p ++ [(k:Int)]) ++ kV want (ks.drop (k+1)) (k+1) p:=by
 conv=>lhs;rw [NX h]
 simp only [kV]
mutual
theorem uK (want:aX ->Bool):∀ (n:aX) (p:List Int),(jZ want n p).length <= n.wt
 | .mk l ps t ks,p=>by
   unfold jZ;have:=e_2 want ks 0 p
   simp only [NZ,aX.wt];split <;> simp <;> omega
theorem e_2 (want:aX ->Bool):∀ (ks:List aX) (i:Nat) (p:List Int),(kV want ks i p).length <= fY ks
 | [],i,p=>by unfold kV;simp
 | k::ks,i,p=>by
   unfold kV;have h1:=uK want k (p ++ [(i:Int)])
   have h2:=e_2 want ks (i+1) p;simp only [NZ,fY];omega
end
end Go.Proofs.YtmadpclcmjahoaaGreatDoor
