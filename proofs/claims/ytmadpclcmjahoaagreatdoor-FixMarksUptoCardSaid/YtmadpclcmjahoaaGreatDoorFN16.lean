/- Parts of the proof: 16. -/
import Derived.Test.YtmadpclcmjahoaaGreatDoorFN1
import Derived.Test.YtmadpclcmjahoaaGreatDoorFN2
import Derived.Test.YtmadpclcmjahoaaGreatDoorFN8
import Derived.Test.YtmadpclcmjahoaaGreatDoorFN9
import Derived.Test.YtmadpclcmjahoaaGreatDoorFN15
import Derived.Test.YtmadpclcmjahoaaGreatDoorFN11
import Derived.Test.YtmadpclcmjahoaaGreatDoorFN4
import Derived.Deep.MidRow
import Derived.Laws.IdiomStrings
set_option linter.unusedVariables false
set_option linter.unusedSimpArgs false
set_option maxHeartbeats 8000000
set_option maxRecDepth 100000
namespace Go.Proofs.YtmadpclcmjahoaaGreatDoor
open Go.RowKit Go.Redl
def m5:List eK ->Nat
 | []=>0
 | p::ps=>p.1.length / 64+p.2.length / 64+m5 ps
mutual
def tV:aK ->Int ->Int
 | .mk _ ps t ks,m=>if m - (1+t.length+ps.length:Nat) - (m5 ps:Nat) < 0 then -1 else vY ks (m - (1+t.length+ps.length:Nat) - (m5 ps:Nat))
def vY:List aK ->Int ->Int
 | [],m=>m
 | k::ks,m=>if tV k m < 0 then -1 else vY ks (tV k m)
end
def i_y (n:aK) (m:Int):Bool:=decide (0 <= tV n m)
theorem d_b (a b:List eK):m5 (a ++ b)=m5 a+m5 b:=by
 induction a with
 | nil=>simp [m5]
 | cons p ps ih=>simp only [List.cons_append,m5,ih];omega
theorem f_o {ps:List eK} {k:Nat} (h:k < ps.length):m5 (ps.take (k+1))=m5 (ps.take k)+(ps[k].1.length / 64+ps[k].2.length / 64):=by
 rw [List.take_succ_eq_append_getElem h,d_b];simp [m5]
theorem i_z (ps:List eK):m5 ps <= gX ps:=by
 induction ps with
 | nil=>simp [m5]
 | cons p ps ih=>simp only [m5,gX];omega
mutual
theorem f_p:∀ (n:aK) (m:Int),0 <= m -> -1 <= tV n m/\tV n m <= m
 | .mk l ps t ks,m,h=>by
   simp only [tV]
   split
   . omega
   . have:=f_q ks (m - (1+t.length+ps.length:Nat) - (m5 ps:Nat)) (by omega)
     omega
theorem f_q:∀ (ks:List aK) (m:Int),0 <= m -> -1 <= vY ks m/\vY ks m <= m
 | [],m,h=>by simp only [vY];omega
 | k ::ks,m,h=>by
   simp only [vY]
   have h1:=f_p k m h
   split
   . omega
   . have:=f_q ks (tV k m) (by omega)
     omega
end
theorem g_N {ks:List aK} {k:Nat} {m:Int} (h:k < ks.length):vY (ks.drop k) m=if tV ks[k] m < 0 then -1 else vY (ks.drop (k+1)) (tV ks[k] m):=by
 conv=>lhs;rw [List.drop_eq_getElem_cons h]
 simp only [vY]
theorem left_eq {z:Int} {ks:List aK} {l:Bool} {ps:List eK} {t:List Int} {most:Int} (hz:z=most - (1+t.length+ps.length:Nat) - (m5 ps:Nat)):
 tV (.mk l ps t ks) most=if z < 0 then -1 else vY ks z:=by subst hz;rfl
theorem l_W (m:Nat):∀ (n:aK) (v:Value) (most:Int) (w:World),n.wt <= m ->n.wt <= 100000000 ->0 <= most ->most <= 1000000 ->bY w w.heap.size n v ->
 Calls Tryz.prog 89 #[v, .int .i64 most] w fun e w'=>e= .returned (.int .i64 (tV n most))/\Below w.heap.size w w':=by
 induction m with
 | zero=>intro n v most w hm;have:=G5 n;omega
 | succ m ih=>
   intro n v most w hm hn hm0 hm1 hv
   obtain⟨l,ps,t,ks⟩:=n
   obtain⟨ap,cp,at_,ct,ak,ck,css,rfl,hp,ht,hk,hc⟩:=hv.open
   have IH:=a6 ih
   have hwt:1+gX ps+t.length+dX ks=(aK.mk l ps t ks).wt:=rfl
   have hw2:dX ks <= 100000000:=by omega
   have hw3:dX ks <= m:=by omega
   have hw4:gX ps <= 100000000:=by omega
   have hkl:=fX ks
   have htl:t.length <= 100000000:=by omega
   have hpl:=rV ps
   have Hl:=fun z (hz:z=most - (1+t.length+ps.length:Nat) - (m5 ps:Nat))=>a6 (left_eq (l:=l) (ks:=ks) hz)
   clear ih hv hwt hm hn ht
   go_enter Tryz.func89,Tryz.ntmps89
   go_wp2_with fail
   go_loopw [1,22] (fun s i wr=>∃k:Nat,k <= ps.length/\i= .int .i64 k/\s= .int .i64 (most - (1+t.length+ps.length:Nat) - (m5 (ps.take k):Nat))/\Below (w.heap.size+1) (w.alloc (Obj.cells #[.bool l, .slice ap ps.length cp, .slice at_ t.length ct, .slice ak ks.length ck] 35)) wr) (fun _ i _=>ps.length - (intOf i).toNat)
   case atStart=>exact⟨0,Nat.zero_le _,rfl,by simp [m5],a7⟩
   case round=>
    obtain⟨k,hkn,rfl,rfl,hbel⟩:=hrel
    have hr2:=hp.keep (gZ hbel) (gZ hbel).size
    have hcl:=i_z (ps.take k)
    have hck:=e_9 ps k
    by_cases hlt:k < ps.length
    . have Hb:=a6 hbel
      have Hss:=a6 (f_o hlt)
      have hcw:=b_9 (List.getElem_mem hlt)
      obtain⟨b,off,rfl,hb,g0,g1⟩:=hr2.prop_at k hlt
      generalize ps[k]=p at hcw g0 g1 Hss
      obtain⟨p1,p2⟩:=p
      simp only at hcw g0 g1 Hss
      generalize m5 (ps.take k)=T at hcl Hss⊢
      have hTl:T <= 100000000:=by omega
      have hl1:p1.length <= 100000000:=by omega
      have hl2:p2.length <= 100000000:=by omega
      have hb2:(⟨p1.toArray⟩:ByteArray).size=p1.length:=rfl
      clear hbel hcl hck hcw
      go_wp2_with fail
      go_roundw
      case rel=>exact⟨k+1,by omega,by go_num,by rw [Hss.o];go_num,b_S Hb.o⟩
      case measure=>simp [intOf];omega
    . obtain rfl:k=ps.length:=by omega
      rw [List.take_length]at hcl⊢
      obtain⟨x0,x1,x2,x3⟩:=F5 hbel
      have Hb:=a6 (gZ hbel)
      have Hl1:=Hl _ rfl
      have hz1:most - (1+t.length+ps.length:Nat) - (m5 ps:Nat) <= 1000000:=by omega
      generalize most - (1+t.length+ps.length:Nat) - (m5 ps:Nat)=z at Hl1 hz1⊢
      clear hbel hcl hck Hl
      by_cases hz:z < 0
      . go_wp2_with fail
        go_ret
        exact⟨cY (by rw [Hl1.o,if_pos hz]),Hb.o⟩
      . have Hl2:Hid (tV (.mk l ps t ks) most=vY ks z):=by
         show tV _ _=_
         rw [Hl1.o,if_neg hz]
        have hz0:0 <= z:=by omega
        clear hz Hl1
        go_wp2_with fail
        go_loopw [1,43] (fun s i wr=>∃ (k:Nat) (y:Int),k <= ks.length/\0 <= y/\y <= 1000000/\i= .int .i64 k/\s= .int .i64 y/\vY (ks.drop k) y=vY ks z/\Below w.heap.size w wr) (fun _ i _=>ks.length - (intOf i).toNat)
        case atStart=>exact⟨0,z,Nat.zero_le _,hz0,hz1,rfl,rfl,by simp,Hb.o⟩
        case round=>
         obtain⟨k,y,hkn,hy0,hy1,rfl,rfl,hke,hbel⟩:=hrel
         have hr2:=hk.keep hbel hbel.size
         have hc2:=dQ.keep hbel hbel.size ks css hc
         have Hb2:=a6 hbel
         have Hke:=a6 hke
         clear hbel hke x0 x1 x2 x3
         by_cases hlt:k < ks.length
         . have Hss:=a6 (g_N (m:=y) hlt)
           have hkw:=iK (List.getElem_mem hlt)
           obtain⟨b,off,l',a1,n1,c1,a2,n2,c2,a3,n3,c3,rfl,hb,hnc,g0,g1,g2,g3⟩:=hr2.kid_at hc2 k hlt
           generalize ks[k]=q at hnc hkw Hss
           have hB:=(((Below.refl wr.heap.size wr).alloc (a8) (Obj.cells #[.bool l', .slice a1 n1 c1, .slice a2 n2 c2, .slice a3 n3 c3] 35)))
           have HC:=a6 (IH.o q (.agg #[.bool l', .slice a1 n1 c1, .slice a2 n2 c2, .slice a3 n3 c3]) y _ (by omega) (by omega) hy0 hy1 ⟨_,rfl,dJ.keep hB hB.size _ _ hnc⟩)
           have hql:=f_p q y hy0
           generalize tV q y=x at HC Hss hql
           obtain⟨hq0,hq1⟩:=hql
           by_cases hx:x < 0
           . have Hr:Hid (tV (.mk l ps t ks) most= -1):=by
              show tV _ _=_
              rw [Hl2.o, <- Hke.o,Hss.o,if_pos hx]
             go_wp2_with fail
             refine HC.o.mono ?_
             rintro e w2 ⟨rfl,hbel⟩
             have Hb3:=a6 ((Hb2.o.alloc Hb2.o.size _).trans (hbel.mono (by simp;have:=Hb2.o.size;omega)))
             clear hbel
             go_wp2_with fail
             go_ret
             exact⟨cY Hr.o.symm,Hb3.o⟩
           . have Hr:Hid (vY (ks.drop (k+1)) x=vY ks z):=by
              show vY _ _=_
              rw [<- Hke.o,Hss.o,if_neg hx]
             go_wp2_with fail
             refine HC.o.mono ?_
             rintro e w2 ⟨rfl,hbel⟩
             have Hb3:=a6 ((Hb2.o.alloc Hb2.o.size _).trans (hbel.mono (by simp;have:=Hb2.o.size;omega)))
             clear hbel
             go_wp2_with fail
             go_roundw
             case rel=>exact⟨k+1,x,by omega,by omega,by omega,by go_num,rfl,Hr.o,Hb3.o⟩
             case measure=>simp [intOf];omega
         . obtain rfl:k=ks.length:=by omega
           go_wp2_with fail
           go_ret
           exact⟨cY (by rw [Hl2.o, <- Hke.o,List.drop_length];rfl),Hb2.o⟩
theorem n_4 (n:aK) (v:Value) (most:Int) (w:World) (hn:n.wt <= 100000000) (h0:0 <= most) (h1:most <= 1000000) (hv:bY w w.heap.size n v):
 Calls Tryz.prog 35 #[v, .int .i64 most] w fun e w'=>e= .returned (.bool (i_y n most))/\Below w.heap.size w w':=by
 have hv0:=hv
 obtain⟨l,ps,t,ks⟩:=n
 obtain⟨ap,cp,at_,ct,ak,ck,css,rfl, -, -, -, -⟩:=hv0.open
 generalize aK.mk l ps t ks=n at hv hn⊢
 have hB0:=((Below.refl w.heap.size w).alloc (a8) (Obj.cells #[.bool l, .slice ap ps.length cp, .slice at_ t.length ct, .slice ak ks.length ck] 35))
 have HS:=a6 (l_W _ n _ most _ (a8) hn h0 h1 (hv.keep hB0 hB0.size))
 have Hf:Hid (i_y n most=decide (0 <= tV n most)):=rfl
 generalize tV n most=x at HS Hf
 clear hv0 hv hB0 hn
 go_enter Tryz.func35,Tryz.ntmps35
 go_wp2_with fail
 refine HS.o.mono ?_
 rintro e w1 ⟨rfl,hbel⟩
 have Hb1:=a6 (gZ (fY hbel))
 clear hbel HS
 go_wp2_with fail
 go_ret
 exact⟨b7 Hf.o.symm,Hb1.o⟩
def E3 (kd:Int):Prop:=kd=1∨kd=2∨kd=3∨kd=5
theorem g_O {kd:Int} (hk:E3 kd):∃fs,CJ kd=some fs/\JV b_3 kd (.string ⟨#[]⟩)=(.string ⟨fs.toArray⟩,true)/\fs.length <= 1000:=by
 rcases hk with rfl | rfl | rfl | rfl
 . exact⟨[112,110],rfl,rfl,by decide⟩
 . exact⟨[112,110],rfl,rfl,by decide⟩
 . exact⟨[112,97,111],rfl,rfl,by decide⟩
 . exact⟨[112,116],rfl,rfl,by decide⟩
theorem l_X (o:j7):g_r o.full=onB (AQ o.path o.dest o.pos o.node o.old):=by
 unfold g_r onB AQ
 simp only [g_q,List.filter_cons,List.filter_nil]
 by_cases h1:0 < o.path.length <;> by_cases h2:0 < o.dest.length <;> by_cases h3:o.pos=0 <;> cases h4:wV o.node bZ <;> by_cases h5:0 < o.old.length <;> simp [h1,h2,h3,h5]
theorem f_r {o:j7} {fs:List UInt8} (h:DZ o.full=0) (hf:CJ o.kind=some fs):∀c∈onB (AQ o.path o.dest o.pos o.node o.old),c∈fs:=by
 intro c hc
 rw [<- l_X]at hc
 unfold DZ at h
 rw [show o.full.kind=o.kind from rfl,hf]at h
 simp only []at h
 split at h
 . rename_i h2
   have:=List.all_eq_true.1 h2 c hc
   simpa using this
 . cases h
theorem b_4 {n R k:aK} {p:List Int} (h:B4 n p=(R,k,0)):p≠ []/\kK n p=some k/\∃u,kK n p.dropLast=some u/\R=gY n p.dropLast (setKids u ((aQ u).eraseIdx (iJ p).toNat)):=by
 unfold B4 at h
 split at h
 . simp at h
 . rename_i hp
   split at h
   . rename_i m u hm hu
     simp only [Prod.mk.injEq,and_true]at h
     exact⟨hp,by rw [hm,h.2],u,hu,h.1.symm⟩
   . simp at h
theorem d_z {p:List Int} (hp:p≠ []):p.dropLast ++ [iJ p]=p:=by
 rcases List.eq_nil_or_concat p with rfl | ⟨q,i,h⟩
 . exact absurd rfl hp
 . rw [h,List.concat_eq_append];simp [iJ]
theorem f_s {ks:List aK} {j:Nat} (hj:j < ks.length):dX (ks.eraseIdx j)+ks[j].wt=dX ks:=by
 have h:=sK (ks.take j) (ks.drop j)
 rw [List.take_append_drop,List.drop_eq_getElem_cons hj]at h
 rw [List.eraseIdx_eq_take_drop_succ,sK,h]
 simp only [dX];omega
theorem i_A {ks:List aK} {i:Nat} {m:aK}:dX (xZ ks i m)=dX ks+m.wt:=by
 have h:=sK (ks.take i) (ks.drop i)
 rw [List.take_append_drop]at h
 unfold xZ
 rw [sK,h]
 simp only [dX];omega
theorem k_i {n R k:aK} {p:List Int} (h:B4 n p=(R,k,0)):R.wt+k.wt=n.wt:=by
 obtain⟨hp,hk,u,hu,rfl⟩:=b_4 h
 rw [<- d_z hp]at hk
 obtain⟨u',j,hu',hj,hjl,hkk⟩:=j_U hk
 rw [hu]at hu';injection hu' with hu';subst hu'
 have h1:=e_c p.dropLast n u (setKids u ((aQ u).eraseIdx (iJ p).toNat)) hu
 have h2:=MQ u ((aQ u).eraseIdx (iJ p).toNat)
 rw [hj,Int.toNat_natCast]at h1 h2⊢
 have h3:=f_s hjl
 rw [hkk]at h3
 omega
theorem k_j {n X m:aK} {p:List Int} (h:FK n p m=(X,0)):p≠ []/\X.wt=n.wt+m.wt:=by
 unfold FK at h
 split at h
 . simp at h
 . rename_i hp
   split at h
   . simp at h
   . rename_i k hk
     split at h
     . simp at h
     . split at h
       . simp at h
       . simp only [Prod.mk.injEq,and_true]at h
         subst h
         have h1:=e_c p.dropLast n k (setKids k (xZ (aQ k) (iJ p).toNat m)) hk
         have h2:=MQ k (xZ (aQ k) (iJ p).toNat m)
         rw [i_A]at h2
         exact⟨hp,by omega⟩
theorem l_Y (a b:aK):(pQ a b).wt <= a.wt+b.wt:=by
 obtain⟨l,ps,t,ks⟩:=a
 obtain⟨l',ps',t',ks'⟩:=b
 simp only [pQ,aK.wt,sK,List.length_append]
 omega
theorem AV {n X:aK} {o:j7} (hk:E3 o.kind) (hw:n.wt <= 100000000) (h:lQ n o.full=(X,0)):
 eQ n=0/\aZ n=false/\o.path≠ []/\DZ o.full=0/\((o.kind=1/\eQ o.node=0/\FK n o.path o.node=(X,0))∨ (o.kind≠1/\∃R k,B4 n o.path=(R,k,0)/\h_M o.kind o.pos o.path o.dest o.node o.old R k X/\X.wt <= n.wt/\(o.kind=3 ->0 < iJ o.path)/\(o.kind=5 ->o.dest≠ []))):=by
 unfold lQ at h
 split at h
 . rename_i h0;simp at h;exact absurd h.2 h0
 rename_i h0
 split at h
 . simp at h
 rename_i hl
 split at h
 . rename_i h1;simp at h;exact absurd h.2 h1
 rename_i hf
 refine⟨by simpa using h0,by simpa using hl, ?_,by simpa using hf, ?_⟩
 . unfold u_7 at h
   intro hp
   have hp':o.full.path= []:=hp
   split at h
   . split at h
     . rename_i h1;simp at h;exact absurd h.2 h1
     . unfold FK at h;rw [hp']at h;simp at h
   . have hc:(B4 n o.full.path).2.2=6:=by rw [hp'];rfl
     rw [if_pos (by rw [hc];decide),hc]at h
     simp at h
 unfold u_7 at h
 split at h
 . rename_i hk1
   split at h
   . rename_i h1;simp at h;exact absurd h.2 h1
   . rename_i h1
     exact .inl ⟨hk1,by simpa using h1,h⟩
 . rename_i hk1
   right
   refine⟨hk1, ?_⟩
   obtain⟨R,k,e,hc⟩:∃R k e,B4 n o.path=(R,k,e):=⟨_,_,_,rfl⟩
   have hc':B4 n o.full.path=(R,k,e):=hc
   rw [hc']at h
   by_cases he:e=0
   . subst he
     have hwt:=k_i hc
     have hkp:=G5 k
     simp only [ne_eq,not_true_eq_false,if_false]at h
     have hk':o.full.kind=o.kind:=rfl
     refine⟨R,k,hc, ?_⟩
     rcases hk with hk | hk | hk | hk
     . exact absurd hk hk1
     . rw [if_pos (hk'.trans hk)]at h
       split at h
       . rename_i hs
         simp only [Prod.mk.injEq,and_true]at h
         subst h
         exact⟨.inl ⟨hk,hs,rfl⟩,by omega,by omega,by omega⟩
       . simp at h
     . rw [if_neg (by omega),if_pos (hk'.trans hk)]at h
       unfold b_I at h
       split at h
       . simp at h
       . rename_i h1
         split at h
         . simp at h
         . rename_i into hinto
           split at h
           . simp at h
           . rename_i h2
             split at h
             . simp at h
             . rename_i h3
               split at h
               . simp at h
               . rename_i h4
                 simp only [Prod.mk.injEq,and_true]at h
                 have h5:=uK _ _ _ hinto
                 have h6:=l_Y into k
                 have h7:=e_c (j5 o.full.path) R into (pQ into k) hinto
                 have hpos:0 < iJ o.path:=by
                  have:¬iJ o.full.path <= 0:=fun e=>h1 (.inr e)
                  have e:iJ o.full.path=iJ o.path:=rfl
                  omega
                 have h8:X.wt <= n.wt:=by
                  rw [<- h]
                  show (gY R (j5 o.full.path) (pQ into k)).wt <= n.wt
                  omega
                 refine⟨.inr (.inl ⟨hk,into,hpos,hinto,by simpa using h2,by simpa using h3,by simpa using h4,by omega,h.symm⟩),h8,fun _=>hpos,by omega⟩
     . rw [if_neg (by omega),if_neg (by omega)]at h
       obtain⟨hd,hX⟩:=k_j h
       exact⟨.inr (.inr ⟨hk,h⟩),by omega,by omega,fun _=>hd⟩
   . rw [if_pos he]at h
     simp at h
     exact absurd h.2 he
theorem FZ {n X:aK} {o:j7} (hk:E3 o.kind) (hw:n.wt <= 100000000) (h:lQ n o.full=(X,0)):X.wt <= n.wt+(if o.kind=1 then o.node.wt else 0):=by
 obtain⟨-, -, -, -,⟨h1, -,h2⟩ | ⟨h1,R,k, -, -,h2, -, -⟩⟩:=AV hk hw h
 . rw [if_pos h1,(k_j h2).2];omega
 . rw [if_neg h1];exact h2
theorem f_t (ps:List eK):gX ps <= 128 * ps.length+64 * m5 ps:=by
 induction ps with
 | nil=>simp [gX]
 | cons p ps ih=>simp only [gX,m5,List.length_cons];omega
mutual
theorem f_u:∀ (n:aK) (m:Int),0 <= tV n m ->(n.wt:Int) <= 128 * (m - tV n m)
 | .mk l ps t ks,m,h=>by
   simp only [tV]at h⊢
   split at h
   . omega
   . rename_i h0
     rw [if_neg h0]
     have h1:=f_v ks _ h
     have h2:=f_t ps
     simp only [aK.wt]
     push_cast at h1⊢
     omega
theorem f_v:∀ (ks:List aK) (m:Int),0 <= vY ks m ->(dX ks:Int) <= 128 * (m - vY ks m)
 | [],m,h=>by simp [vY,dX]
 | k ::ks,m,h=>by
   simp only [vY]at h⊢
   split at h
   . omega
   . rename_i h0
     rw [if_neg h0]
     have h1:=f_u k m (by omega)
     have h2:=f_v ks _ h
     simp only [dX]
     push_cast
     omega
end
theorem n_5 {n:aK} {m:Int} (h:i_y n m=true):(n.wt:Int) <= 128 * m:=by
 unfold i_y at h
 have h1:=of_decide_eq_true h
 have:=f_u n m h1
 omega
abbrev lY (kd:Int) (p d:List Int) (pos:Int) (xs:List Int):Option (List Int):=kY xs ⟨kd,p,d,pos,bZ, [], [], [],b_H,b_H⟩
def e_l (W:World) (R:Option (List Int)) (e:Ending) (w':World):Prop:=Below W.heap.size W w'/\(R=none ->e= .returned (.tuple #[.slice none 0 0, .bool false]))/\
 ∀ys,R=some ys ->∃v,e= .returned (.tuple #[v, .bool true])/\w'.ownsRow W.heap.size 3 1 v ys.length (ys.map (Value.int .i64))
theorem uV {W w':World} {R:Option (List Int)} (hR:R=none) (hb:Below W.heap.size W w'):e_l W R (.returned (.tuple #[.slice none 0 0, .bool false])) w':=⟨hb,fun _=>rfl,fun ys h=>by rw [hR]at h;cases h⟩
theorem mQ {W w':World} {R:Option (List Int)} {ys:List Int} {v:Value} (hR:R=some ys) (hb:Below W.heap.size W w') (ho:w'.ownsRow W.heap.size 3 1 v ys.length (ys.map (Value.int .i64))):e_l W R (.returned (.tuple #[v, .bool true])) w':=
 ⟨hb,fun h=>(by rw [hR]at h;cases h),fun zs h=>(by rw [hR]at h;cases h;exact⟨v,rfl,ho⟩)⟩
theorem JX {l:List Int} (h:bQ l=true):∀z∈l,0 <= z/\z <= 1048576:=by
 intro z hz
 have:=List.all_eq_true.1 h z hz
 unfold AJ at this
 simp at this
 omega
theorem JY (q p:List Int):cJ q p=0∨cJ q p=1∨cJ q p=2∨cJ q p=3:=by
 unfold cJ
 split <;> (try split) <;> (try split) <;> (try split) <;> simp
theorem c_v {q p:List Int} (h:cJ q p=2):q.length < p.length:=by
 unfold cJ at h
 split at h
 . cases h
 . split at h
   . cases h
   . split at h
     . rename_i ha
       unfold jK at ha
       simp only [Bool.and_eq_true,decide_eq_true_eq]at ha
       exact ha.1
     . split at h <;> cases h
theorem e_m {q p:List Int} (h:cJ q p=3):q=p:=by
 unfold cJ at h
 split at h
 . cases h
 . split at h
   . assumption
   . split at h
     . cases h
     . split at h <;> cases h
theorem b_p:∀args w,(callFunc 144 args).run Tryz.prog w= .ok (.enter 144 args) w:=by intro args w;kernel_rfl
theorem f_w {w:World} {N:Nat} {x y:Value} (h:At w N [x,y] 36) (hx:x.oneCell'=true) (hy:y.oneCell'=true):RowA w w.heap.size 1 (some ⟨N,0,none⟩) 2 2 [x,y]:=RowQ.row (ok:=fun _=>True) (wZ (T:=36) h 2 1 rfl (by omega) (by intro u hu;simp at hu;rcases hu with rfl | rfl <;> assumption) trivial)
theorem f_x {kd pos:Int} {p d xs:List Int} (h:(bQ xs && (bQ p && (bQ d && !AJ pos)))=false):lY kd p d pos xs=none:=by
 unfold lY kY
 simp only [h]
 rfl
theorem h_N (xs p d:List Int) (kd pos:Int) (xa pa ta:Option Addr) (xc pc tc:Nat) (v4 v5 v6 v7 v8 v9 v10 v11 v12 v13 v14 v15 v16 v17 v18 v19 v20:Value) (W:World) (hk:E3 kd)
 (hx:RowA W W.heap.size 1 xa xs.length xc (xs.map (Value.int .i64))) (hp:RowA W W.heap.size 1 pa p.length pc (p.map (Value.int .i64))) (hd:RowA W W.heap.size 1 ta d.length tc (d.map (Value.int .i64))) (hxl:xs.length <= 400000) (hpl:p.length <= 400000) (hdl:d.length <= 400000) (hne:p≠ []):
 Calls Tryz.prog 69 #[.slice xa xs.length xc, .agg #[.int .i64 kd, .slice pa p.length pc, .slice ta d.length tc, .int .i64 pos,v4,v5,v6,v7,v8,v9,v10,v11,v12,v13,v14,v15,v16,v17,v18,v19,v20]] W (e_l W (lY kd p d pos xs)):=by
 obtain⟨w0,hw0⟩:∃w0,w0=W.alloc (Obj.cells #[.int .i64 kd, .slice pa p.length pc, .slice ta d.length tc, .int .i64 pos,v4,v5,v6,v7,v8,v9,v10,v11,v12,v13,v14,v15,v16,v17,v18,v19,v20] 55):=⟨_,rfl⟩
 have hb0:Below W.heap.size W w0:=by rw [hw0];exact aX _ _
 have hA:At w0 W.heap.size [.int .i64 kd, .slice pa p.length pc, .slice ta d.length tc, .int .i64 pos,v4,v5,v6,v7,v8,v9,v10,v11,v12,v13,v14,v15,v16,v17,v18,v19,v20] 55:=by rw [hw0];exact At.fresh W _ _
 have hkeep:∀ {sz:Nat} {a:Option Addr} {n c:Nat} {cs:List Value} (w':World),Below w0.heap.size w0 w' ->RowA W W.heap.size sz a n c cs ->RowA w' W.heap.size sz a n c cs:=fun w' hb hr=>hr.keep (hb0.trans (hb.mono hb0.size)) (a8)
 have hsz:∀w',Below w0.heap.size w0 w' ->W.heap.size <= w'.heap.size:=fun w' hb=>(hb0.trans (hb.mono hb0.size)).size
 have HN:=a6 (fun(w1:World) (hb:Below w0.heap.size w0 w1)=>DY xs xa xc W.heap.size w1 (hkeep w1 hb hx) (hsz w1 hb) (by omega))
 have HP:=a6 (fun(w1:World) (hb:Below w0.heap.size w0 w1)=>DY p pa pc W.heap.size w1 (hkeep w1 hb hp) (hsz w1 hb) (by omega))
 have HD:=a6 (fun(w1:World) (hb:Below w0.heap.size w0 w1)=>DY d ta tc W.heap.size w1 (hkeep w1 hb hd) (hsz w1 hb) (by omega))
 have HZ:=a6 (fun(w1:World) (q:Option Addr) (hp:RowA w1 w1.heap.size 1 q 1 1 [.int .i64 pos])=>DY [pos] q 1 w1.heap.size w1 hp (a8) (by simp))
 have HT:=a6 (fun(w1:World) (hb:Below w0.heap.size w0 w1)=>c_n p xs pa xa pc xc W.heap.size w1 (hkeep w1 hb hp) (hkeep w1 hb hx))
 have HSm:=a6 (fun h=>f_x (kd:=kd) (p:=p) (d:=d) (pos:=pos) (xs:=xs) h)
 have Hkx:=a6 (fun(w1:World) (hb:Below w0.heap.size w0 w1)=>hkeep w1 hb hx);have Hkd:=a6 (fun(w1:World) (hb:Below w0.heap.size w0 w1)=>hkeep w1 hb hd);have Hkp:=a6 (fun(w1:World) (hb:Below w0.heap.size w0 w1)=>hkeep w1 hb hp)
 have Hsz:=a6 hsz
 have HA:=a6 hA;have Hb0:=a6 hb0;have Hw0:=a6 hw0;have Hne:=a6 hne
 have c1:=hA.cell 1 rfl;have cl:=hA.lt
 clear hx hp hd hb0 hA hw0 hkeep hsz hne
 go_enter Tryz.func69,Tryz.ntmps69
 go_upto_region 1 with fail
 rw [<- Hw0.o]
 clear Hw0
 go_wp2_with fail
 refine(HN.o w0 (a7)).mono ?_
 obtain⟨s0,hs0⟩:∃s0,s0=bQ xs:=⟨_,rfl⟩
 rw [<- hs0]
 have Hs0:=a6 hs0
 rintro e w1 ⟨rfl,hbel⟩
 have hA1:=HA.o.kept hbel
 have d1:=hA1.cell 1 rfl;have dl:=hA1.lt
 have Hb1:=a6 hbel
 clear hbel hA1 c1 cl HN hs0
 cases s0 with
 | false=>
   have HbW:=a6 (Hb0.o.trans (Hb1.o.mono Hb0.o.size))
   have HR:=a6 (HSm.o (by rw [<- Hs0.o];rfl))
   clear HP HD HZ HT HA d1 dl
   go_wp2_with fail
   go_ret2
   exact uV HR.o HbW.o
 | true=>
 go_wp2_with fail
 refine(HP.o w1 Hb1.o).mono ?_
 obtain⟨s1,hs1⟩:∃s1,s1=bQ p:=⟨_,rfl⟩
 rw [<- hs1]
 have Hs1:=a6 hs1
 rintro e w2 ⟨rfl,hbel⟩
 have Hb2:=a6 (b5 Hb1.o hbel)
 clear hbel HP d1 dl hs1
 cases s1 with
 | false=>
   have HbW:=a6 (Hb0.o.trans (Hb2.o.mono Hb0.o.size))
   have HR:=a6 (HSm.o (by rw [<- Hs0.o, <- Hs1.o];rfl))
   clear HD HZ HT HA
   go_wp2_with fail
   go_ret2
   exact uV HR.o HbW.o
 | true=>
 have hA2:=HA.o.kept Hb2.o
 have f2:=hA2.cell 2 rfl;have fl:=hA2.lt
 clear hA2
 go_wp2_with fail
 refine(HD.o w2 Hb2.o).mono ?_
 obtain⟨s2,hs2⟩:∃s2,s2=bQ d:=⟨_,rfl⟩
 rw [<- hs2]
 have Hs2:=a6 hs2
 rintro e w3 ⟨rfl,hbel⟩
 have Hb3:=a6 (b5 Hb2.o hbel)
 clear hbel HD f2 fl hs2
 cases s2 with
 | false=>
   have HbW:=a6 (Hb0.o.trans (Hb3.o.mono Hb0.o.size))
   have HR:=a6 (HSm.o (by rw [<- Hs0.o, <- Hs1.o, <- Hs2.o];rfl))
   clear HZ HT HA
   go_wp2_with fail
   go_ret2
   exact uV HR.o HbW.o
 | true=>
 have hA3:=HA.o.kept Hb3.o
 have g3:=hA3.cell 3 rfl;have gl:=hA3.lt
 clear hA3
 go_wp2_with fail
 refine(HZ.o _ _ (BJ w3 (.int .i64 pos) 3 _ rfl (by simp))).mono ?_
 obtain⟨s3,hs3⟩:∃s3,s3=bQ [pos]:=⟨_,rfl⟩
 rw [<- hs3]
 have Hs3:=a6 hs3
 rintro e w4 ⟨rfl,hbel⟩
 have Hb4:=a6 (b5 (Hb3.o.trans ((aX w3 (Obj.cells #[Value.int .i64 pos] 3)).mono Hb3.o.size)) hbel)
 clear hbel g3 gl HZ hs3
 cases s3 with
 | false=>
   have HbW:=a6 (Hb0.o.trans (Hb4.o.mono Hb0.o.size))
   have HR:=a6 (HSm.o (by have h:=Hs3.o;simp [bQ]at h;rw [<- Hs0.o, <- Hs1.o, <- Hs2.o,h];rfl))
   clear HT HA
   go_wp2_with fail
   go_ret2
   exact uV HR.o HbW.o
 | true=>
 have hA4:=HA.o.kept Hb4.o
 have k1:=hA4.cell 1 rfl;have kl:=hA4.lt
 clear hA4
 go_wp2_with fail
 refine(HT.o w4 Hb4.o).mono ?_
 obtain⟨st,hst⟩:∃st,st=cJ p xs:=⟨_,rfl⟩
 rw [<- hst]
 have Hst:=a6 hst
 rintro e w5 ⟨rfl,hdr⟩
 have Hb5:=a6 (b5 Hb4.o (hdr.below _))
 clear hdr HT k1 kl hst
 have Hxs:=a6 (JX Hs0.o.symm);have Hps:=a6 (JX Hs1.o.symm)
 have Hpos:=a6 (show 0 <= pos/\pos <= 1048576 from JX Hs3.o.symm pos (by simp))
 have Hok:=a6 (show (bQ xs && (bQ p && (bQ d && !AJ pos)))=true by have h:=Hs3.o;simp [bQ]at h;rw [<- Hs0.o, <- Hs1.o, <- Hs2.o];simp [h])
 have Hlt:=a6 (fun(h:st≠0)=>c_o (q:=p) (p:=xs) (by rw [<- Hst.o];exact h))
 have HSh:=a6 (fun(w1:World) (hb:Below w0.heap.size w0 w1) (k:Nat) (dd:Int) (hk:k < xs.length) (hw: -1048576 <= dd/\dd <= 1048576)=>e_g xs k dd xa xc W.heap.size w1 (Hkx.o w1 hb) (Hsz.o w1 hb) (by omega) hk (by
  have hm:xs.getD k 0∈xs:=by rw [fJ hk];exact List.getElem_mem hk
  have:=Hxs.o _ hm;omega))
 have HIn:=a6 (fun(w1:World) (hb:Below w0.heap.size w0 w1)=>CX xs p xa pa xc pc W.heap.size w1 (Hkx.o w1 hb) (Hkp.o w1 hb) (Hsz.o w1 hb) (by omega) (by omega) (fun z hz=>by have:=Hxs.o z hz;omega))
 have HId:=a6 (fun(w1:World) (hb:Below w0.heap.size w0 w1)=>CX xs d xa ta xc tc W.heap.size w1 (Hkx.o w1 hb) (Hkd.o w1 hb) (Hsz.o w1 hb) (by omega) (by omega) (fun z hz=>by have:=Hxs.o z hz;omega))
 have HCl:=a6 (fun(w1:World) (hb:Below w0.heap.size w0 w1)=>qV W.heap.size xs.length xa xc _ w1 (Hkx.o w1 hb) (Hsz.o w1 hb) (by omega))
 obtain⟨m,hm⟩:∃m,p.length=m+1:=⟨p.length - 1,by have:=List.length_pos_iff.2 Hne.o;omega⟩
 have Hm:=a6 hm
 have hA5:=HA.o.kept Hb5.o
 have m0:=hA5.cell 0 rfl;have m2:=hA5.cell 2 rfl;have m3:=hA5.cell 3 rfl;have ml:=hA5.lt
 have HbW:=a6 (Hb0.o.trans (Hb5.o.mono Hb0.o.size))
 have hmb:m <= 1000000:=by omega
 have hq0:decide ((m:Int) < 0)=false:=by simp
 have hqw:IntKind.i64.wrap ((m:Int)+1 - 1)=(m:Int):=by rw [IntKind.wrap_i64];omega
 have hpi:((p.length:Nat):Int)=(m:Int)+1:=by omega
 clear hA5 hm
 rcases hk with rfl | rfl | rfl | rfl
 . have HI:=a6 (HIn.o w5 Hb5.o)
   have HR:=a6 (show lY 1 p d pos xs=some (eJ xs p)by unfold lY kY;rw [Hok.o];simp [Hne.o])
   clear HSh HIn HId HCl
   go_wp2_with fail
   refine HI.o.mono ?_
   rintro e w6 ⟨v,rfl,hown,hbel⟩
   have HbF:=a6 (HbW.o.trans (hbel.mono HbW.o.size))
   have Ho:=a6 (nK hown HbW.o.size)
   clear HI hown hbel
   go_wp2_with fail
   go_ret2
   exact mQ HR.o HbF.o Ho.o
 . have hst4:st=0∨st=1∨st=2∨st=3:=by rw [Hst.o];exact JY p xs
   have HRR:=a6 (show lY 2 p d pos xs=if st=2∨st=3 then none else if st=1 then some (dV xs (p.length - 1) (-1)) else some xs by rw [Hst.o];unfold lY kY;rw [Hok.o];simp [Hne.o])
   clear HIn HId
   rcases hst4 with rfl | rfl | rfl | rfl
   . have HI:=a6 (HCl.o w5 Hb5.o)
     have HR:=a6 (show lY 2 p d pos xs=some xs by rw [HRR.o];simp)
     clear HSh HCl HRR
     go_wp2_with fail
     refine HI.o.mono ?_
     rintro e w6 ⟨v,rfl,hown,hbel⟩
     have HbF:=a6 (HbW.o.trans (hbel.mono HbW.o.size))
     have Ho:=a6 (nK hown HbW.o.size)
     clear HI hown hbel
     go_wp2_with fail
     go_ret2
     exact mQ HR.o HbF.o Ho.o
   . have hl:=Hlt.o (by decide)
     have HI:=a6 (HSh.o w5 Hb5.o m (-1) (by have:=Hm.o;omega) (by omega))
     have HR:=a6 (show lY 2 p d pos xs=some (dV xs m (-1))by rw [HRR.o,Hm.o];simp)
     clear HSh HCl HRR hl
     go_wp2_with fail
     refine HI.o.mono ?_
     rintro e w6 ⟨v,rfl,hown,hbel⟩
     have HbF:=a6 (HbW.o.trans (hbel.mono HbW.o.size))
     have Ho:=a6 (nK hown HbW.o.size)
     clear HI hown hbel
     go_wp2_with fail
     go_ret2
     exact mQ HR.o HbF.o Ho.o
   . have HR:=a6 (show lY 2 p d pos xs=none by rw [HRR.o];simp)
     clear HSh HCl HRR
     go_wp2_with fail
     go_ret2
     exact uV HR.o HbW.o
   . have HR:=a6 (show lY 2 p d pos xs=none by rw [HRR.o];simp)
     clear HSh HCl HRR
     go_wp2_with fail
     go_ret2
     exact uV HR.o HbW.o
 . have hst4:st=0∨st=1∨st=2∨st=3:=by rw [Hst.o];exact JY p xs
   have HRR:=a6 (show lY 3 p d pos xs=if iJ p=0 then none else if st=2 then some (dV (dV xs p.length pos) (p.length - 1) (-1)) else if st=3∨st=1 then some (dV xs (p.length - 1) (-1)) else some xs by rw [Hst.o];unfold lY kY;rw [Hok.o];simp [Hne.o])
   clear HIn HId
   have hml2:m < p.length:=by have:=Hm.o;omega
   obtain⟨pb,po,hpa,hpb,hpc⟩:=(Hkp.o w5 Hb5.o).int_at m hml2
   subst hpa
   have px:=hpc m hml2
   have hlast:iJ p=p.getD m 0:=by
    have h:=Hm.o
    unfold iJ
    rw [List.getLastD_eq_getLast?,List.getLast?_eq_getElem?,h,Nat.add_sub_cancel,List.getD]
   rw [hlast]at HRR
   generalize p.getD m 0=i at px HRR
   have hmi:(m:Int) < (m:Int)+1:=by omega
   clear hpc hlast hml2
   by_cases hi0:i=0
   . have hib:(i == 0)=true:=by simpa using hi0
     have HR:=a6 (show lY 3 p d pos xs=none by rw [HRR.o,if_pos hi0])
     clear HSh HCl HRR hi0
     go_wp2_with fail
     go_ret2
     exact uV HR.o HbW.o
   . have hib:(i == 0)=false:=by simpa using hi0
     have HRn:=a6 (show lY 3 p d pos xs=if st=2 then some (dV (dV xs p.length pos) (p.length - 1) (-1)) else if st=3∨st=1 then some (dV xs (p.length - 1) (-1)) else some xs by rw [HRR.o,if_neg hi0])
     clear HRR hi0
     rcases hst4 with rfl | rfl | rfl | rfl
     . have HI:=a6 (HCl.o w5 Hb5.o)
       have HR:=a6 (show lY 3 p d pos xs=some xs by rw [HRn.o];simp)
       clear HSh HCl HRn
       go_wp2_with fail
       refine HI.o.mono ?_
       rintro e w6 ⟨v,rfl,hown,hbel⟩
       have HbF:=a6 (HbW.o.trans (hbel.mono HbW.o.size))
       have Ho:=a6 (nK hown HbW.o.size)
       clear HI hown hbel
       go_wp2_with fail
       go_ret2
       exact mQ HR.o HbF.o Ho.o
     . have hl:=Hlt.o (by decide)
       have HI:=a6 (HSh.o w5 Hb5.o m (-1) (by have:=Hm.o;omega) (by omega))
       have HR:=a6 (show lY 3 p d pos xs=some (dV xs m (-1))by rw [HRn.o,Hm.o];simp)
       clear HSh HCl HRn hl
       go_wp2_with fail
       refine HI.o.mono ?_
       rintro e w6 ⟨v,rfl,hown,hbel⟩
       have HbF:=a6 (HbW.o.trans (hbel.mono HbW.o.size))
       have Ho:=a6 (nK hown HbW.o.size)
       clear HI hown hbel
       go_wp2_with fail
       go_ret2
       exact mQ HR.o HbF.o Ho.o
     . have hl2:m+1 < xs.length:=by have h1:=c_v Hst.o.symm;have h2:=Hm.o;omega
       have hi1:=HSh.o w5 Hb5.o (m+1) pos hl2 (by have:=Hpos.o;omega)
       push_cast at hi1
       have HI:=a6 hi1
       have HR:=a6 (show lY 3 p d pos xs=some (dV (dV xs (m+1) pos) m (-1))by rw [HRn.o,Hm.o];simp)
       have hwm:IntKind.i64.wrap ((m:Int)+1)=(m:Int)+1:=IntWalk.i64_in _ (by omega)
       have hyl:=b_0 xs (m+1) pos
       have hyr:∀z∈dV xs (m+1) pos,0 <= z/\z <= 9000000000000:=fun z hz=>by
        unfold dV at hz
        have hg:xs.getD (m+1) 0∈xs:=by rw [fJ hl2];exact List.getElem_mem hl2
        have h1:=Hxs.o _ hg
        have h2:=Hpos.o
        rcases List.mem_or_eq_of_mem_set hz with h | h
        . have:=Hxs.o z h;omega
        . omega
       have Hyr:=a6 hyr
       generalize dV xs (m+1) pos=ys at HI HR Hyr hyl
       have Hyl:=a6 (show ys.length <= 1000000 by omega)
       have Hym:=a6 (show m < ys.length by omega)
       clear HSh HCl HRn hi1 hyr hyl hl2
       go_wp2_with fail
       refine HI.o.mono ?_
       rintro e w6 ⟨v,rfl,hown,hbel⟩
       obtain⟨ya,yc,rfl,hyw⟩:=cK hown (by intro u hu;obtain⟨z, -,rfl⟩:=List.mem_map.1 hu;rfl)
       have HbF:=a6 (HbW.o.trans (hbel.mono HbW.o.size))
       have HI2:=a6 (e_g ys m (-1) ya yc w6.heap.size w6 hyw (a8) Hyl.o Hym.o (by
        have hg:ys.getD m 0∈ys:=by rw [fJ Hym.o];exact List.getElem_mem Hym.o
        have:=Hyr.o _ hg
        omega))
       clear HI hown hbel hyw
       go_wp2_with fail
       refine HI2.o.mono ?_
       rintro e w7 ⟨v7,rfl,hown,hbel⟩
       have HbG:=a6 (HbF.o.trans (hbel.mono HbF.o.size))
       have Ho:=a6 (nK hown HbF.o.size)
       clear HI2 hown hbel
       go_wp2_with fail
       go_ret2
       exact mQ HR.o HbG.o Ho.o
     . have hl:=Hlt.o (by decide)
       have HI:=a6 (HSh.o w5 Hb5.o m (-1) (by have:=Hm.o;omega) (by omega))
       have HR:=a6 (show lY 3 p d pos xs=some (dV xs m (-1))by rw [HRn.o,Hm.o];simp)
       clear HSh HCl HRn hl
       go_wp2_with fail
       refine HI.o.mono ?_
       rintro e w6 ⟨v,rfl,hown,hbel⟩
       have HbF:=a6 (HbW.o.trans (hbel.mono HbW.o.size))
       have Ho:=a6 (nK hown HbW.o.size)
       clear HI hown hbel
       go_wp2_with fail
       go_ret2
       exact mQ HR.o HbF.o Ho.o
 . have hst4:st=0∨st=1∨st=2∨st=3:=by rw [Hst.o];exact JY p xs
   have HRR:=a6 (show lY 5 p d pos xs=if st=3∨st=2 then some (d ++ xs.drop p.length) else some (eJ (if st=1 then dV xs (p.length - 1) (-1) else xs) d)by rw [Hst.o];unfold lY kY;rw [Hok.o];simp [Hne.o])
   clear HIn HCl
   rcases hst4 with rfl | rfl | rfl | rfl
   . have HI:=a6 (HId.o w5 Hb5.o)
     have HR:=a6 (show lY 5 p d pos xs=some (eJ xs d)by rw [HRR.o];simp)
     clear HSh HId HRR
     go_wp2_with fail
     refine HI.o.mono ?_
     rintro e w6 ⟨v,rfl,hown,hbel⟩
     have HbF:=a6 (HbW.o.trans (hbel.mono HbW.o.size))
     have Ho:=a6 (nK hown HbW.o.size)
     clear HI hown hbel
     go_wp2_with fail
     go_ret2
     exact mQ HR.o HbF.o Ho.o
   . have hl:=Hlt.o (by decide)
     have HI:=a6 (HSh.o w5 Hb5.o m (-1) (by have:=Hm.o;omega) (by omega))
     have HR:=a6 (show lY 5 p d pos xs=some (eJ (dV xs m (-1)) d)by rw [HRR.o,Hm.o];simp)
     have hys:∀z∈dV xs m (-1), -1 <= z/\z <= 9000000000000:=fun z hz=>by
      unfold dV at hz
      have hmm:m < xs.length:=by have:=Hm.o;omega
      have hg:xs.getD m 0∈xs:=by rw [fJ hmm];exact List.getElem_mem hmm
      have h1:=Hxs.o _ hg
      rcases List.mem_or_eq_of_mem_set hz with h | h
      . have:=Hxs.o z h;omega
      . omega
     have Hys:=a6 hys;have hyl:=b_0 xs m (-1)
     generalize dV xs m (-1)=ys at HI HR Hys hyl
     clear HSh HId HRR hl hys
     have Hyl:=a6 (show ys.length <= 1000000 by omega)
     clear hyl
     go_wp2_with fail
     refine HI.o.mono ?_
     rintro e w6 ⟨v,rfl,hown,hbel⟩
     obtain⟨ya,yc,rfl,hyr⟩:=cK hown (by intro u hu;obtain⟨z, -,rfl⟩:=List.mem_map.1 hu;rfl)
     have Hb6:=a6 (b5 Hb5.o hbel)
     have HbF:=a6 (HbW.o.trans (hbel.mono HbW.o.size))
     have HI2:=a6 (CX ys d ya ta yc tc w6.heap.size w6 hyr ((Hkd.o w6 Hb6.o).keep (a7) (Hsz.o w6 Hb6.o)) (a8) Hyl.o (by omega) Hys.o)
     have hA6:=HA.o.kept Hb6.o
     have n2:=hA6.cell 2 rfl;have nl:=hA6.lt
     clear HI hown hbel hyr hA6
     go_wp2_with fail
     refine HI2.o.mono ?_
     rintro e w7 ⟨v7,rfl,hown,hbel⟩
     have HbG:=a6 (HbF.o.trans (hbel.mono HbF.o.size))
     have Ho:=a6 (nK hown HbF.o.size)
     clear HI2 hown hbel
     go_wp2_with fail
     go_ret2
     exact mQ HR.o HbG.o Ho.o
   . have hle:m+1 <= xs.length:=by have h1:=c_v Hst.o.symm;have h2:=Hm.o;omega
     obtain⟨ca,cc,hsl,hcr⟩:=(Hkx.o w5 Hb5.o).cut_l 36 3 Tryz.underlying36 (fun W=>by kernel_rfl) (m+1) hle
     have HR:=a6 (show lY 5 p d pos xs=some (d ++ xs.drop (m+1))by rw [HRR.o,Hm.o];simp)
     rw [Nat.mul_one, <- List.map_drop,show xs.length - (m+1)=(xs.drop (m+1)).length by simp]at hcr
     rw [show xs.length - (m+1)=(xs.drop (m+1)).length by simp]at hsl
     push_cast at hsl
     have hTl:(xs.drop (m+1)).length <= xs.length:=by simp
     generalize xs.drop (m+1)=T at hcr hsl HR hTl
     have HC:=a6 (fun(w':World) (hb:Below w5.heap.size w5 w') (N:Nat) (hA:At w' N [.slice ta d.length tc, .slice ca T.length cc] 36)=>(show Calls Tryz.prog 144 #[.slice (some ⟨N,0,none⟩) 2 2] w' (rK w' 3 1 (d ++ T).length ((d ++ T).map (Value.int .i64)))by
      have h:=M5 (some ⟨N,0,none⟩) 2 w'.heap.size [.slice ta d.length tc, .slice ca T.length cc] [d.map (Value.int .i64),T.map (Value.int .i64)] w' (f_w hA rfl rfl)
       (yJ.cons ((Hkd.o w' (b5 Hb5.o hb)).keep (a7) (Hsz.o w' (b5 Hb5.o hb))) (yJ.cons (hcr.keep (hb.mono (Hsz.o w5 Hb5.o)) (Hsz.o w' (b5 Hb5.o hb))) (yJ.nil _ _))) (a8) (by simp;omega)
      rw [show ([d.map (Value.int .i64),T.map (Value.int .i64)].flatten)=(d ++ T).map (Value.int .i64)by simp,List.length_map]at h
      exact h))
     have hwm:IntKind.i64.wrap ((m:Int)+1)=(m:Int)+1:=IntWalk.i64_in _ (by omega)
     generalize d ++ T=zs at HC HR
     clear HSh HId HRR hle hcr hTl
     go_upto_region 33 with fail
     go_region_law (first
      | (refine b9 rfl 144 _ _ rfl b_p [.slice (some ⟨w5.heap.size,0,none⟩) 2 2] ?_ _ (HC.o _ (by((repeat (first | with_reducible exact a7 | with_reducible refine Below.drew ?_ | with_reducible refine Below.alloc ?_ ?_ _ | with_reducible refine Below.setCell ?_ ?_ _)) <;> (first | with_reducible exact a8 | (simp;done) | (simp;omega) | omega))) _ (by(repeat (first | with_reducible exact At.second _ _ _ _ | with_reducible exact At.fresh _ _ _ | with_reducible refine At.drew ?_ | with_reducible refine At.alloc ?_ _)))) ?_
         . go_simp
         rintro e w6 ⟨v,rfl,hown,hbel⟩
         refine⟨_,rfl, ?_⟩
         have Hb6:=a6 (b5 (w0:=w5) (by((repeat (first | with_reducible exact a7 | with_reducible refine Below.drew ?_ | with_reducible refine Below.alloc ?_ ?_ _ | with_reducible refine Below.setCell ?_ ?_ _)) <;> (first | with_reducible exact a8 | (simp;done) | (simp;omega) | omega))) hbel)
         have Ho:=a6 (nK hown (aJ HbW.o.size (Below.size (w:=w5) (B:=w5.heap.size) (by((repeat (first | with_reducible exact a7 | with_reducible refine Below.drew ?_ | with_reducible refine Below.alloc ?_ ?_ _ | with_reducible refine Below.setCell ?_ ?_ _)) <;> (first | with_reducible exact a8 | (simp;done) | (simp;omega) | omega))))))
         clear hown hbel))
     all_goals
      have HbF:=a6 (HbW.o.trans (Hb6.o.mono HbW.o.size))
      go_wp2_with fail
      go_ret2
      exact mQ HR.o HbF.o Ho.o
   . have hle:m+1 <= xs.length:=by have h1:=e_m Hst.o.symm;have h2:=Hm.o;rw [h1]at h2;omega
     obtain⟨ca,cc,hsl,hcr⟩:=(Hkx.o w5 Hb5.o).cut_l 36 3 Tryz.underlying36 (fun W=>by kernel_rfl) (m+1) hle
     have HR:=a6 (show lY 5 p d pos xs=some (d ++ xs.drop (m+1))by rw [HRR.o,Hm.o];simp)
     rw [Nat.mul_one, <- List.map_drop,show xs.length - (m+1)=(xs.drop (m+1)).length by simp]at hcr
     rw [show xs.length - (m+1)=(xs.drop (m+1)).length by simp]at hsl
     push_cast at hsl
     have hTl:(xs.drop (m+1)).length <= xs.length:=by simp
     generalize xs.drop (m+1)=T at hcr hsl HR hTl
     have HC:=a6 (fun(w':World) (hb:Below w5.heap.size w5 w') (N:Nat) (hA:At w' N [.slice ta d.length tc, .slice ca T.length cc] 36)=>(show Calls Tryz.prog 144 #[.slice (some ⟨N,0,none⟩) 2 2] w' (rK w' 3 1 (d ++ T).length ((d ++ T).map (Value.int .i64)))by
      have h:=M5 (some ⟨N,0,none⟩) 2 w'.heap.size [.slice ta d.length tc, .slice ca T.length cc] [d.map (Value.int .i64),T.map (Value.int .i64)] w' (f_w hA rfl rfl)
       (yJ.cons ((Hkd.o w' (b5 Hb5.o hb)).keep (a7) (Hsz.o w' (b5 Hb5.o hb))) (yJ.cons (hcr.keep (hb.mono (Hsz.o w5 Hb5.o)) (Hsz.o w' (b5 Hb5.o hb))) (yJ.nil _ _))) (a8) (by simp;omega)
      rw [show ([d.map (Value.int .i64),T.map (Value.int .i64)].flatten)=(d ++ T).map (Value.int .i64)by simp,List.length_map]at h
      exact h))
     have hwm:IntKind.i64.wrap ((m:Int)+1)=(m:Int)+1:=IntWalk.i64_in _ (by omega)
     generalize d ++ T=zs at HC HR
     clear HSh HId HRR hle hcr hTl
     go_upto_region 33 with fail
     go_region_law (first
      | (refine b9 rfl 144 _ _ rfl b_p [.slice (some ⟨w5.heap.size,0,none⟩) 2 2] ?_ _ (HC.o _ (by((repeat (first | with_reducible exact a7 | with_reducible refine Below.drew ?_ | with_reducible refine Below.alloc ?_ ?_ _ | with_reducible refine Below.setCell ?_ ?_ _)) <;> (first | with_reducible exact a8 | (simp;done) | (simp;omega) | omega))) _ (by(repeat (first | with_reducible exact At.second _ _ _ _ | with_reducible exact At.fresh _ _ _ | with_reducible refine At.drew ?_ | with_reducible refine At.alloc ?_ _)))) ?_
         . go_simp
         rintro e w6 ⟨v,rfl,hown,hbel⟩
         refine⟨_,rfl, ?_⟩
         have Hb6:=a6 (b5 (w0:=w5) (by((repeat (first | with_reducible exact a7 | with_reducible refine Below.drew ?_ | with_reducible refine Below.alloc ?_ ?_ _ | with_reducible refine Below.setCell ?_ ?_ _)) <;> (first | with_reducible exact a8 | (simp;done) | (simp;omega) | omega))) hbel)
         have Ho:=a6 (nK hown (aJ HbW.o.size (Below.size (w:=w5) (B:=w5.heap.size) (by((repeat (first | with_reducible exact a7 | with_reducible refine Below.drew ?_ | with_reducible refine Below.alloc ?_ ?_ _ | with_reducible refine Below.setCell ?_ ?_ _)) <;> (first | with_reducible exact a8 | (simp;done) | (simp;omega) | omega))))))
         clear hown hbel))
     all_goals
      have HbF:=a6 (HbW.o.trans (Hb6.o.mono HbW.o.size))
      go_wp2_with fail
      go_ret2
      exact mQ HR.o HbF.o Ho.o
structure b_q (W:World) (B:Nat) (v:Value) (xs:List PX):Prop where
 row:∃a c,v= .slice a xs.length c/\RowA W B 1 a xs.length c (xs.map D5)
 all:∀x∈xs,RowA W B 1 x.2.1 x.1.length x.2.2 (x.1.map (Value.int .i64))
theorem b_q.keep {w w':World} {B B':Nat} {v:Value} {xs:List PX} (h:b_q w B v xs) (hb:Below B w w') (hB:B <= B'):b_q w' B' v xs:=by
 obtain⟨⟨a,c,h1,h2⟩,h3⟩:=h
 exact⟨⟨a,c,h1,h2.keep hb hB⟩,fun x hx=>(h3 x hx).keep hb hB⟩
theorem k_k (xs:List PX):∀u∈xs.map D5,u.oneCell'=true:=by
 intro u hu;obtain⟨x, -,rfl⟩:=List.mem_map.1 hu;rfl
theorem jJ.read {w:World} {M L:Nat} {v:Value} {xs:List PX} (h:jJ w M L v xs):b_q w w.heap.size v xs:=by
 obtain⟨a,c,hv,hr⟩:=cK h.own (k_k xs)
 exact⟨⟨a,c,hv,hr⟩,fun x hx=>(h.all x hx).row⟩
theorem b_q.at_ {w:World} {B:Nat} {a:Option Addr} {n c:Nat} {xs:List PX} (h:b_q w B (.slice a n c) xs) (k:Nat) (hk:k < xs.length):
 ∃b off,a=some ⟨b,off,none⟩/\b < B/\w.cell? ⟨b,off+k,none⟩=some (D5 xs[k]):=by
 obtain⟨⟨a',c',hv,hr⟩, -⟩:=h
 injection hv with e1 e2 e3;subst e1
 obtain⟨b,off,ha,hb,hc⟩:=hr.some_ (by intro e;simp at e;subst e;simp at hk)
 exact⟨b,off,ha,hb,hc k _ (by simp [List.getElem?_eq_getElem hk])⟩
theorem jJ.push {M L:Nat} {w0 w':World} {v v':Value} {xs:List PX} {y:PX} {ob:Obj} (h:jJ w0 M L v xs) (hy:PxQ w0 (fun b=>L <= b/\v.ownBlock≠some b) y)
 (hg:(w0.alloc ob).grownBy w' v.ownBlock) (hown:w'.ownsRow M 36 1 v' (xs.length+1) (xs.map D5 ++ [D5 y])) (hw:v'.ownBlock=v.ownBlock∨ ∀k,v'.ownBlock=some k ->(w0.alloc ob).heap.size <= k):jJ w' M L v' (xs ++ [y]):=by
 have hs:=hg.size
 have hall:∀x∈xs ++ [y],PxQ w0 (fun b=>L <= b/\v.ownBlock≠some b) x:=fun x hx=>by
  rcases List.mem_append.1 hx with hx | hx
  . exact h.all x hx
  . rw [List.mem_singleton.1 hx];exact hy
 refine⟨by rw [List.length_append,List.map_append];exact hown,fun x hx=>(hall x hx).keep (by simp at hs;omega) (fun b hb hlt=> ?_) fun b hb hlt=>⟨hb.1, ?_⟩⟩
 . rw [hg.block b (by simp;omega) (fun e=>hb.2 e.symm),Lib.alloc_old _ _ _ hlt]
 . rcases hw with e | e
   . rw [e];exact hb.2
   . intro e2;have:=e b e2;simp at this;omega
theorem a_B {P:Program} {ops:Array Oper} {rest:List Oper} {o:Oper} {a:Act} {w0:World} {Q:Exit ->Act ->World ->Prop} {ob:Obj}
 (hg:o.guard=none) (s x:Operand) (ho:o.op= .call { callee:= .builtin .append,args:= #[s,x],argTypes:= #[47,47] })
 (ht:P.underlying 47=some (.slice 36)) (hi:(P.info? 36).map (fun i=>(i.zero,i.size,i.bytes))=some (some (.slice none 0 0),1,24))
 (M L:Nat) (v:Value) (xs:List PX) (hs:a.eval s=v) (hO:jJ w0 M L v xs) (y:PX) (hob:ob= .cells #[D5 y] 36) (hx:a.eval x= .slice (some ⟨w0.heap.size,0,none⟩) 1 1)
 (hq:PxQ w0 (fun b=>L <= b/\v.ownBlock≠some b) y) (hn:xs.length <= 100000000) (hM:M <= w0.heap.size)
 (h:∀v' w',jJ w' M L v' (xs ++ [y]) ->Below M w0 w' ->wpList P ops Q rest (a.put o.dst v') w'):wpList P ops Q (o::rest) a (w0.alloc ob):=by
 subst hob
 refine DJ hg s x 47 ho M 36 (.slice none 0 0) 1 24 ht hi rfl (by decide) v xs.length (xs.map D5) hs (j4 hO.own (aX _ _)) ⟨w0.heap.size,0,none⟩ 1 1 (w0.heap.size+1) [D5 y] hx (BJ w0 (D5 y) 36 _ rfl (by omega)) (by unfold maxLen;omega) (by omega) (by simp;omega) fun v' w' hown hgrow hwh=> ?_
 exact h v' w' (jJ.push hO hq hgrow hown hwh) (((Below.refl M w0).alloc hM _).grown hgrow (by simp;omega) (fun k hk=>hO.ge k hk))
theorem ldx {P:Program} {w:World} {N:Nat} {cs:List Value} {T:TypeId} {d:TypeDesc} (h:At w N cs T) (hu:P.underlying T=some d) (hd:d.isRow=true) (hi:(P.info? T).map (·.size)=some cs.length):(Instr.loadAt T (.pointer (some ⟨N,0,none⟩))).run P w= .ok (.agg cs.toArray) w:=
 run_loadAt_mid w N 0 T cs d (fun j v hj=>by rw [Nat.zero_add];exact h.cell j hj) hu hd hi
def d_A (W:World) (r:Option (List Int)) (e:Ending) (w':World):Prop:=Below W.heap.size W w'/\
 (∀p,r=some p ->∃v,e= .returned (.tuple #[v, .int .i64 0])/\w'.ownsRow W.heap.size 3 1 v p.length (p.map (Value.int .i64)))/\(r=none ->∃v k,e= .returned (.tuple #[v, .int .i64 k])/\k≠0)
def IQ (W:World) (r:Option (List Int)) (f:Value):Prop:= ∃l caps,f= .func (.func l) #[] caps/\(∀args w,(callFunc l args).run Tryz.prog w= .ok (.enter l args) w)/\∀w',Below W.heap.size W w' ->Calls Tryz.prog l caps w' (d_A w' r)
theorem k_l (fvs:List Value) (rs:List (Option (List Int))) (a:Option Addr) (c:Nat) (W:World) (hr:RowA W W.heap.size 1 a fvs.length c fvs) (hl:rs.length=fvs.length) (hn:fvs.length <= 1000000)
 (hg:∀k (hk:k < fvs.length),IQ W (rs.getD k none) fvs[k]):Calls Tryz.prog 137 #[.slice a fvs.length c] W (LK W (rs.filterMap id)):=by
 have Hr:=a6 hr;have Hg:=a6 hg;have Hl:=a6 hl
 clear hr hg hl
 go_enter Tryz.func137,Tryz.ntmps137
 go_wp2_with fail
 go_loopg [10,3,5,6,7] fvs.length (fun g i o _ _ _ wr=>∃ (k:Nat) (ys:List PX),i= .int .i64 k/\k+g=fvs.length/\ys.length <= k/\Hid (C5 ys=(rs.take k).filterMap id)/\Hid (jJ wr W.heap.size W.heap.size o ys)/\Hid (Below W.heap.size W wr))
 case atStart=>exact⟨0, [],rfl,by omega,by simp,(show C5 []=(rs.take 0).filterMap id by simp),jJ.nil _ _ _,a7⟩
 case round=>
  obtain⟨k,ys,rfl,hgk,hyk,hys,hy,hbr⟩:=hrel
  obtain⟨oa,oc,ho⟩:=hy.o.form
  subst ho
  by_cases hlt:k < fvs.length
  . have hlti:(k:Int) < fvs.length:=by omega
    obtain⟨l,caps,hf,he,hC⟩:=Hg.o k hlt
    obtain⟨b,off,rfl,hb,hc⟩:=Hr.o.some_ (by intro e;rw [e]at hlt;simp at hlt)
    have hcell:=(hbr.o.cell (p:=⟨b,off+k,none⟩) hb).trans (hc k _ (List.getElem?_eq_getElem hlt))
    have hkr:k < rs.length:=by rw [Hl.o];exact hlt
    have Hst:=a6 (show (rs.take (k+1)).filterMap id=(rs.take k).filterMap id ++ [rs.getD k none].filterMap id by
     rw [List.take_succ_eq_append_getElem hkr,List.filterMap_append,List.getD,List.getElem?_eq_getElem hkr];rfl)
    have HC:=a6 (hC wr hbr.o)
    have HG:=a6 hb
    rw [hf]at hcell
    clear hf hC hc
    generalize rs.getD k none=r at HC Hst
    cases r with
    | none=>
      go_wp2_with fail
      refine HC.o.mono ?_
      rintro e w2 ⟨hbel, -,hno⟩
      obtain⟨v,z,rfl,hz⟩:=hno rfl
      have hzb:(z == 0)=false:=by simpa using hz
      have Hb2:=a6 (hbr.o.trans (hbel.mono hbr.o.size))
      have Hy2:=a6 (hy.o.below hbel)
      clear hbel HC hno hz
      go_wp2_with fail
      go_roundg (fvs.length - (k+1))
      case measure=>omega
      case rel=>
       refine⟨k+1,ys,by go_num,by omega,by omega, ?_,Hy2,Hb2⟩
       show C5 ys=(rs.take (k+1)).filterMap id
       rw [Hst.o]
       simpa using hys.o
    | some p=>
      go_wp2_with fail
      refine HC.o.mono ?_
      rintro e w2 ⟨hbel,hyes, -⟩
      obtain⟨v,rfl,hown⟩:=hyes p rfl
      obtain⟨va,vc,rfl,hq⟩:=oK hown (by intro u hu;obtain⟨z, -,rfl⟩:=List.mem_map.1 hu;rfl)
      have Hb2:=a6 (hbr.o.trans (hbel.mono hbr.o.size))
      have Hy2:=a6 (hy.o.below hbel)
      have Hq:=a6 (show PxQ w2 (fun b=>W.heap.size <= b/\(Value.slice oa ys.length oc).ownBlock≠some b) (p,va,vc)from A8 hq fun b hb=>⟨aJ hbr.o.size hb,fun e=>by have:=(hy.o.own.lt b e).2;omega⟩)
      have Hws:=a6 Hb2.o.size
      clear hbel HC hyes hown hq
      go_wp2_with (at_builtin;refine a_B rfl _ _ rfl Tryz.underlying47 a_j W.heap.size W.heap.size (Value.slice oa ys.length oc) ys rfl ?hO (p,va,vc) rfl rfl ?hq ?hn ?hM ?_)
      case hO=>exact Hy2.o
      case hq=>exact Hq.o
      case hn=>omega
      case hM=>exact Hws.o
      intro v' w3 hy3 hb3
      have Hy3:=a6 hy3;have Hb3:=a6 (Hb2.o.trans hb3)
      clear hy3 hb3 Hq
      go_wp2_with fail
      go_roundg (fvs.length - (k+1))
      case measure=>omega
      case rel=>
       refine⟨k+1,ys ++ [(p,va,vc)],by go_num,by omega,by simp;omega, ?_,Hy3,Hb3⟩
       show C5 (ys ++ [(p,va,vc)])=(rs.take (k+1)).filterMap id
       rw [Hst.o,o7,GQ, <- hys.o]
       rfl
  . obtain rfl:k=fvs.length:=by omega
    have Hfin:=a6 (show C5 ys=rs.filterMap id by have h:=hys.o;rwa [<- Hl.o,List.take_length]at h)
    go_wp2_with fail
    go_ret
    exact⟨_,ys,rfl,hy.o,Hfin.o,hbr.o⟩
theorem k_m (l:List (List Int)):(a_l l).length <= l.length:=by
 induction l with
 | nil=>simp [a_l]
 | cons p l ih=>
   have h:∀ (p:List Int) (l:List (List Int)),(a_R p l).length <= l.length+1:=by
    intro p l
    induction l with
    | nil=>simp [a_R]
    | cons q l ih => unfold a_R;split; · simp
                     split; · simp
                     . simp;exact ih
   have:=h p (a_l l)
   show (a_R p (a_l l)).length <= _
   simp;omega
abbrev L8 (n:aK):List (List Int):=qX (fun _=>true) n []
theorem n_6 (n:aK) (v:Value) (W:World) (hw:n.wt <= 100000000) (hv:bY W W.heap.size n v):Calls Tryz.prog 78 #[v] W (LK W (L8 n)):=by
 refine(m_P n v W hw hv).mono fun e w' h=> ?_
 obtain⟨u,cs,rfl,h1,h2,h3⟩:=h
 obtain⟨xs,hx,rfl,h4⟩:=d_l h2
 refine⟨u,xs,rfl,⟨?_,h4⟩,hx.symm,h3⟩
 have hl:(L8 n).length=xs.length:=by rw [show L8 n=C5 xs from hx];simp
 rw [<- hl];exact h1
theorem i_B {a b:List Int}:jK a b=true ↔ a.length < b.length/\a <+:b:=by
 unfold jK
 rw [Bool.and_eq_true,decide_eq_true_eq,decide_eq_true_eq,c_3]
theorem k_n (c:UInt8) (hc:Conv.runesFrom ⟨#[c]⟩ 1 0 #[]= #[.int .i32 c.toNat]) (w:World):∃cap w',(convert 9 32 (.string ⟨#[c]⟩)).run Tryz.prog w= .ok (.slice (some ⟨w.heap.size,0,none⟩) 1 cap) w'/\
 Below w.heap.size w w'/\RowA w' w'.heap.size 1 (some ⟨w.heap.size,0,none⟩) 1 cap [.int .i32 c.toNat]:=by
 have hsz:(Conv.runesFrom ⟨#[c]⟩ (⟨#[c]⟩:ByteArray).size 0 #[])= #[.int .i32 c.toNat]:=hc
 have h:=run_runes_of_string (P:=Tryz.prog) w 9 32 21 ⟨#[c]⟩ Tryz.underlying9 Tryz.underlying32 Tryz.underlying21 (by rw [hsz];simp)
 rw [hsz]at h
 have h1:(#[Value.int .i32 c.toNat]:Array Value).size=1:=rfl
 rw [h1]at h
 have hge:=grownCap_ge w 1 0 21
 have hcm:=grownCap_le_maxLen w 1 0 21 (by unfold maxLen;omega)
 refine⟨_,_,h,(a7).drew.alloc (a8) _,⟨by simp,hge,hcm,by simp;rfl,(fun h=>by cases h),fun _=>⟨w.heap.size,0,rfl,by simp,fun j u hj=> ?_⟩⟩⟩
 have hg:=heap_alloc_new w.drew (Obj.cells (#[Value.int .i32 c.toNat] ++ Array.replicate (grownCap w 1 0 21 - 1) (.int .i32 0)) 21)
 have hd:w.drew.heap.size=w.heap.size:=rfl
 rw [hd]at hg
 rw [cell_of_row _ w.heap.size (0+j) _ _ _ hg]
 have hj0:j=0:=by
  cases j with
  | zero=>rfl
  | succ j=>simp at hj
 subst hj0
 simp at hj
 subst hj
 rw [Array.getElem?_append_left (by simp)]
 rfl
def n_K (W:World) (ps:List eK) (c:UInt8) (e:Ending) (w':World):Prop:=
 ∃ap cp at_ ct,e= .returned (.agg #[.bool true, .slice ap ps.length cp, .slice at_ 1 ct, .slice none 0 0])/\dJ w' w'.heap.size (.mk true ps [(c.toNat:Int)] []) [.bool true, .slice ap ps.length cp, .slice at_ 1 ct, .slice none 0 0]/\Below W.heap.size W w'
theorem n_7 (c:UInt8) (hc:Conv.runesFrom ⟨#[c]⟩ 1 0 #[]= #[.int .i32 c.toNat]) (ps:List eK) (ap:Option Addr) (cp:Nat) (W:World) (hp:RowA W W.heap.size 2 ap ps.length cp (bK ps)):
 Calls Tryz.prog 32 #[.string ⟨#[c]⟩, .slice ap ps.length cp] W (n_K W ps c):=by
 obtain⟨cap,w1,h1,h2,h3⟩:=k_n c hc (W.alloc (Obj.cells #[Value.bool false,Value.slice none 0 0,Value.slice none 0 0,Value.slice none 0 0] 35))
 have hsz0:(W.alloc (Obj.cells #[Value.bool false,Value.slice none 0 0,Value.slice none 0 0,Value.slice none 0 0] 35)).heap.size=W.heap.size+1:=by simp
 have hz:=h2.size
 rw [hsz0]at h2 hz h3 h1
 have hblk:w1.heap[W.heap.size]? =some (Obj.cells #[Value.bool false,Value.slice none 0 0,Value.slice none 0 0,Value.slice none 0 0] 35 (0,0)):=by
  rw [h2.block _ (by omega)];exact heap_alloc_new W _
 have k0:w1.cell? ⟨W.heap.size,0,none⟩=some (.bool false):=by rw [cell_of_row _ _ _ _ _ _ hblk];rfl
 have k1:w1.cell? ⟨W.heap.size,1,none⟩=some (.slice none 0 0):=by rw [cell_of_row _ _ _ _ _ _ hblk];rfl
 have k2:w1.cell? ⟨W.heap.size,2,none⟩=some (.slice none 0 0):=by rw [cell_of_row _ _ _ _ _ _ hblk];rfl
 have k3:w1.cell? ⟨W.heap.size,3,none⟩=some (.slice none 0 0):=by rw [cell_of_row _ _ _ _ _ _ hblk];rfl
 have f0:∀i,w1.frozen? ⟨W.heap.size,i,none⟩=false:=fun i=>by simp [World.frozen?,hblk]
 have Hp:=a6 hp;have H2:=a6 h2;have H3:=a6 h3;have Hblk:=a6 hblk
 clear hp h2 h3 hsz0 hblk hc
 go_enter Tryz.func32,Tryz.ntmps32
 go_wp2_with fail
 have hz2:W.heap.size+1 < w1.heap.size∨True:= .inr trivial
 refine bodyPost_ret (v:= .agg #[.bool true, .slice ap ps.length cp, .slice (some ⟨W.heap.size+1,0,none⟩) 1 cap, .slice none 0 0]) (by simp [results,Tryz.results32,go_sem,k0,k1,k2,k3]) rfl ⟨ap,cp,_,cap,rfl, ?_, ?_⟩
 . have hb:Below W.heap.size W w1:=gZ H2.o
   have r1:RowA w1 w1.heap.size 2 ap ps.length cp (bK ps):=Hp.o.keep hb hb.size
   have hn1:∀b off,ap=some ⟨b,off,none⟩ ->bK ps≠ [] ->b < W.heap.size:=fun b off h hne=>by
    obtain⟨b',off',h',hlt, -⟩:=Hp.o.some_ hne
    rw [h]at h'
    cases h';exact hlt
   unfold dJ
   refine⟨ap,cp,_,cap,none,0, [],rfl, ?_, ?_, ?_,RowA.empty _ _ _,by unfold dQ;rfl⟩
   . have hlen:=L9 ps
     by_cases hpe:bK ps= []
     . have h0:=Hp.o
       exact⟨h0.len,h0.le,h0.max,h0.one,h0.nil,fun h=>absurd hpe h⟩
     . have r2:=(((r1.setCell ⟨W.heap.size,0,none⟩ (.bool true) (fun b off h=>by have:=hn1 b off h hpe;simp;omega)).setCell ⟨W.heap.size,1,none⟩ (.slice ap ps.length cp) (fun b off h=>by have:=hn1 b off h hpe;simp;omega)).setCell ⟨W.heap.size,2,none⟩ (.slice (some ⟨W.heap.size+1,0,none⟩) 1 cap) (fun b off h=>by have:=hn1 b off h hpe;simp;omega)).setCell ⟨W.heap.size,3,none⟩ (.slice none 0 0) (fun b off h=>by have:=hn1 b off h hpe;simp;omega)
       simpa [World.setCell]using r2
   . have r2:=(((H3.o.setCell ⟨W.heap.size,0,none⟩ (.bool true) (fun b off h=>by cases h;simp)).setCell ⟨W.heap.size,1,none⟩ (.slice ap ps.length cp) (fun b off h=>by cases h;simp)).setCell ⟨W.heap.size,2,none⟩ (.slice (some ⟨W.heap.size+1,0,none⟩) 1 cap) (fun b off h=>by cases h;simp)).setCell ⟨W.heap.size,3,none⟩ (.slice none 0 0) (fun b off h=>by cases h;simp)
     simpa [World.setCell]using r2
   . intro z hz
     simp at hz
     subst hz
     have:=c.toNat_lt
     have h1:IntKind.i32.min= -2147483648:=by decide
     have h2:IntKind.i32.max=2147483647:=by decide
     simp only [Lit.wf,Bool.and_eq_true,decide_eq_true_eq,h1,h2]
     omega
 . exact((((gZ H2.o).setCell (p:=⟨W.heap.size,0,none⟩) (a8) _).setCell (p:=⟨W.heap.size,1,none⟩) (a8) _).setCell (p:=⟨W.heap.size,2,none⟩) (a8) _).setCell (p:=⟨W.heap.size,3,none⟩) (a8) _
theorem L2 {w w':World} {E:TypeId} (sz n:Nat) (cs:List Value) (hl:cs.length=n * sz) (hn:n <= 1000000) (h1:∀u∈cs,u.oneCell'=true) (hb:Below (w.heap.size+1) (w.alloc (Obj.cells cs.toArray E)) w'):RowA w' w'.heap.size sz (some ⟨w.heap.size,0,none⟩) n n cs:=by
 refine⟨hl,a8,by unfold maxLen;omega,h1,(fun h=>by cases h),fun _=>⟨w.heap.size,0,rfl, ?_,fun j u hj=> ?_⟩⟩
 . have:=hb.size;simp at this;omega
 . have hg:w'.heap[w.heap.size]? =some (Obj.cells cs.toArray E (0,0)):=by
    rw [hb.block _ (by omega)];exact heap_alloc_new w _
   rw [cell_of_row _ w.heap.size (0+j) _ E (0,0) hg]
   simpa using hj
def n_L (W:World) (s:List UInt8) (a:Option Addr) (c:Nat) (ks:List aK) (e:Ending) (w':World):Prop:=
 ∃g,e= .returned (.agg #[.bool false, .slice (some ⟨g,0,none⟩) 1 1, .slice none 0 0, .slice a ks.length c])/\dJ w' w'.heap.size (.mk false [(F6,s)] [] ks) [.bool false, .slice (some ⟨g,0,none⟩) 1 1, .slice none 0 0, .slice a ks.length c]/\Below W.heap.size W w'
theorem n_8 (x:UInt8) (r:List UInt8) (a:Option Addr) (c:Nat) (ks:List aK) (css:List Value) (W:World) (hr:RowA W W.heap.size 4 a ks.length c css) (hk:dQ W W.heap.size ks css):
 Calls Tryz.prog 31 #[.string ⟨(x::r).toArray⟩, .slice a ks.length c] W (n_L W (x::r) a c ks):=by
 have hne:((⟨(x::r).toArray⟩:ByteArray).toList.isEmpty)=false:=by rw [ByteArray.toList_mk];rfl
 have hne2:(!(⟨(x::r).toArray⟩:ByteArray).toList.isEmpty)=true:=by rw [ByteArray.toList_mk];rfl
 have Hpc:Hid (bK [(F6,x::r)]= [.string ⟨#[116,121,112,101]⟩, .string ⟨(x::r).toArray⟩]):=rfl
 obtain⟨S,hS⟩:∃S,S=(⟨(x::r).toArray⟩:ByteArray):=⟨_,rfl⟩
 rw [<- hS]at hne hne2 Hpc⊢
 have Hr:=a6 hr;have Hk:=a6 hk
 clear hr hk hS
 go_enter Tryz.func31,Tryz.ntmps31
 go_wp2_with fail
 have hb1:=fun(o1 o2:Obj)=>a6 (J7 W o1 o2 (Obj.cells #[.string ⟨#[116,121,112,101]⟩, .string S] 138))
 refine bodyPost_ret (v:= .agg #[.bool false, .slice (some ⟨W.heap.size+1+1,0,none⟩) 1 1, .slice none 0 0, .slice a ks.length c]) (by simp [results,Tryz.results31,go_sem]) rfl ⟨W.heap.size+1+1,rfl, ?_,(hb1 _ _).o⟩
 unfold dJ
 refine⟨some ⟨W.heap.size+1+1,0,none⟩,1,none,0,a,c,css,rfl, ?_,RowA.empty _ _ _,by simp,Hr.o.keep (hb1 _ _).o (hb1 _ _).o.size,dQ.keep (hb1 _ _).o (hb1 _ _).o.size ks css Hk.o⟩
 rw [Hpc.o]
 have h:=L2 (w:=(W.alloc (Obj.cells #[Value.bool false,Value.slice (some ⟨W.heap.size+1+1,0,none⟩) 1 1,Value.slice none 0 0,Value.slice a ks.length c] 35)).alloc (Obj.cells #[Value.bool false,Value.slice (some ⟨W.heap.size+1+1,0,none⟩) 1 1,Value.slice none 0 0,Value.slice a ks.length c] 35)) (E:=138) 2 1 [.string ⟨#[116,121,112,101]⟩, .string S] rfl (by omega) (by intro u hu;simp at hu;rcases hu with rfl | rfl <;> rfl) (a7)
 simpa using h
end Go.Proofs.YtmadpclcmjahoaaGreatDoor
