/- Parts of the proof: CC27. -/
import Derived.Test.YtmadpclcmjahoaaGreatDoorCC26
set_option linter.unusedVariables false
set_option linter.unusedSimpArgs false
set_option maxHeartbeats 8000000
set_option maxRecDepth 100000
namespace Go.Proofs.YtmadpclcmjahoaaGreatDoor
open Go.RowKit Go.Redl
def kK (ks:List MT) (j:Nat) (x:MT) (t:Nat):List MT:=ks.take j ++ x.setKids (x.kids.drop t)::(x.kids.take t ++ ks.drop (j+1))
theorem b_p (ks:List MT) (j:Nat) (x:MT) (t:Nat):(kK ks j x t).map MT.bare=rQ (ks.map MT.bare) j x.bare t:=by
 unfold kK rQ;rw [List.map_append,List.map_cons,List.map_append,List.map_take,List.map_drop,List.map_take,MT.bare_setKids,MT.kids_bare,List.map_drop]
theorem a_I {ks:List MT} {j:Nat} {x:MT} {t:Nat} (hj:j < ks.length) (ht:t <= x.kids.length):(kK ks j x t).length=ks.length+t:=by
 unfold kK;simp [O8 (Nat.le_of_lt hj),O8 ht];omega
theorem p_d {ks:List MT} {j:Nat} {x:MT} {t:Nat} (hj:j < ks.length):(kK ks j x t)[j]? =some (x.setKids (x.kids.drop t)):=by
 unfold kK;rw [OX P8]
 simp [O8 (Nat.le_of_lt hj)]
theorem k_r {ks:List MT} {j:Nat} {x:MT} {t:Nat} (hj:j < ks.length) (ht:t < x.kids.length):
 M8 ((kK ks j x t).set j (x.setKids (x.kids.drop (t+1)))) (j+1+t) x.kids[t]=kK ks j x (t+1):=by
 have e:(kK ks j x t).set j (x.setKids (x.kids.drop (t+1)))=ks.take j ++ x.setKids (x.kids.drop (t+1))::(x.kids.take t ++ ks.drop (j+1)):=by
  unfold kK;rw [List.set_append_right _ _ P8]
  simp [O8 (Nat.le_of_lt hj)]
 rw [e];unfold M8 kK;have hl:(ks.take j ++ x.setKids (x.kids.drop (t+1))::x.kids.take t).length=j+1+t:=P8
 rw [show ks.take j ++ x.setKids (x.kids.drop (t+1))::(x.kids.take t ++ ks.drop (j+1))=(ks.take j ++ x.setKids (x.kids.drop (t+1))::x.kids.take t) ++ ks.drop (j+1)by simp,List.take_left' hl,List.drop_left' hl,O1 ht];simp only [O4,List.cons_append,List.nil_append]
theorem k_s (ks:List MT) (j:Nat) (x:MT) (t:Nat):kK ks j x.markIt t=ks.take j ++ (x.setKids (x.kids.drop t)).markIt::(x.kids.take t ++ ks.drop (j+1)):=by
 unfold kK;rw [MT.kids_markIt,MT.markIt_setKids]
theorem e_W {ks:List MT} {j:Nat} {x:MT} {t:Nat} (h:∀y∈ks,y.Ok) (hx:x.Ok):∀y∈kK ks j x t,y.Ok:=by
 unfold kK;exact yV (fun y hy=>h y (List.mem_of_mem_take hy)) (c_g (hx.setKids fun y hy=>hx.kids y (List.mem_of_mem_drop hy)) (yV (fun y hy=>hx.kids y (List.mem_of_mem_take hy)) fun y hy=>h y (List.mem_of_mem_drop hy)))
structure I0 (k kk:MT):Prop where
 bare:kk.bare=k.bare
 kids:kk.kids=k.kids
 mark:kk.markIt=k.markIt
 ok:kk.Ok
theorem I0.refl {k:MT} (h:k.Ok):I0 k k:=⟨rfl,rfl,rfl,h⟩
theorem I0.markIt {k kk:MT} (h:I0 k kk) (hl:b8 k.bare=false):I0 k kk.markIt:=⟨(MT.bare_markIt _).trans h.bare,(MT.kids_markIt _).trans h.kids,(MT.markIt_markIt _).trans h.mark,h.ok.markIt (by rw [h.bare];exact hl)⟩
section
variable {T k : MT} {p : List Int} (hE : dQ T.bare = 0) (hr : b8 T.bare = false) (hok : T.Ok) (ha : T.at_ p = some k) (hl : b8 k.bare = false)
include hok ha hl
theorem k_t {j t:Nat} {x kk xx:MT} {L:List (List Int)} (hK:I0 k kk) (hj:k.kids[j]? =some x) (hX:I0 x xx) (ht:t < x.kids.length) (l:b8 x.bare=false) (hw:(T.put p (kk.setKids (kK k.kids j xx t))).bare.wt <= 1000000) (hL:wV L (T.put p (kk.setKids (kK k.kids j xx t)))):
 wV (IY (T.put p (kk.markIt.setKids (kK k.kids j xx.markIt (t+1)))).bare L (fZ.full ⟨5,p ++ [(j:Int),0],p ++ [(j:Int)+(1+(t:Int))],0,cV, []⟩)) (T.put p (kk.markIt.setKids (kK k.kids j xx.markIt (t+1)))):=by
 have hk:=MT.Ok.at_ p hok ha;have c:j < k.kids.length:=(List.getElem?_eq_some_iff.1 hj).1;have g:t < xx.kids.length:=by rw [hX.kids];exact ht
 have e:=MT.at_put p T k (kk.setKids (kK k.kids j xx t)) ha;have m:(T.put p (kk.setKids (kK k.kids j xx t))).Ok:=MT.Ok.put p hok (hK.ok.setKids (e_W hk.kids hX.ok));obtain⟨s,n,hs⟩:=H7 hw e;rw [MT.kids_setKids,a_I c P2]at n;have hp:bX p=true:=a_n p _ _ (by rw [MT.at_bare,e];rfl) (show (T.put p (kk.setKids (kK k.kids j xx t))).bare.wt <= 1048576 by omega);have ed:(j:Int)+(1+(t:Int))=((j+1+t:Nat):Int):=P2
 have r:j < (kk.setKids (kK k.kids j xx t)).kids.length:=t_G
 have hg:=m_z (k:=kk.setKids (kK k.kids j xx t)) (x:=xx.setKids (xx.kids.drop t)) (y:=xx.kids[t]) (ys:=xx.kids.drop (t+1)) (j:=j) (d:=j+1+t) r P2 P2
  (by
    have h:=p_d (x:=xx) (t:=t) c;simp only [MT.kids_setKids];rw [NV (by rw [a_I c P2];omega)]at h;exact Option.some.inj h)
  (by rw [MT.kids_setKids];exact NX g) P2 t_G hs
 rw [MT.kids_setKids,MT.setKids_setKids,MT.setKids_setKids,k_r c g]at hg;have f:∀q,(kk.setKids (kK k.kids j xx.markIt (t+1))).mk? q=true ↔ (kk.setKids (kK k.kids j xx (t+1))).mk? q=true∨q= [(j:Int)]:=fun q=>by
  have h:=p_b (k:=kk) (x:=xx.setKids (xx.kids.drop (t+1))) (a:=k.kids.take j) (b:=xx.kids.take (t+1) ++ k.kids.drop (j+1)) q;rw [show (k.kids.take j).length=j by simp;omega, <- k_s]at h;exact h
 have i:(kk.markIt.setKids (kK k.kids j xx.markIt (t+1))).Ok:=(hK.markIt hl).ok.setKids (e_W hk.kids (hX.markIt l).ok);have h:=GZ (o:=fZ.full ⟨5, [(j:Int),0], [((j+1+t:Nat):Int)],0,cV, []⟩) (ms:= [[], [(j:Int)]]) (k'':=kk.markIt.setKids (kK k.kids j xx.markIt (t+1))) hL e m P2 (by rw [KZ,iZ (show j <= 1048576 by omega)];rfl) (by rw [rY,iZ (show j+1+t <= 1048576 by omega)];rfl) h_3 P6 P6 P6 hg i
  (fun b h=>by
    rw [<- MT.markIt_setKids,MT.mk_markIt,f]at h;rcases h with(h | h) | h
    . exact .inl h
    . exact .inr t_I
    exact .inr t_I)
  (fun b h=>by rw [<- MT.markIt_setKids,MT.mk_markIt,f];exact .inl (.inl h))
  (fun b hb _=>by
    rw [<- MT.markIt_setKids,MT.mk_markIt,f];rcases OJ hb with rfl | hb
    . exact .inr rfl
    exact .inl (.inr (O9 hb)))
  (fun q _=>k_c hp P2 P2 P2 q)
 rw [MT.put_put p T k _ _ ha]at h;rw [ed];exact h
include hE hr
theorem e_X {j:Nat} {x:MT} (hj:k.kids[j]? =some x) (c:0 < x.kids.length ->b8 x.bare=false):∀ (m t:Nat) (kk xx:MT) (L:List (List Int)),t+m=x.kids.length ->I0 k kk ->I0 x xx ->(T.put p (kk.setKids (kK k.kids j xx t))).bare.wt <= 1000000 ->wV L (T.put p (kk.setKids (kK k.kids j xx t))) ->
 ∃kk' xx',I0 k kk'/\I0 x xx'/\(T.put p (kk'.setKids (kK k.kids j xx' x.kids.length))).bare.wt <= 1000000/\wV (mY (T.put p (kk.setKids (kK k.kids j xx t))).bare L ((List.range' t m).map fun i:Nat=>fZ.full ⟨5,p ++ [(j:Int),0],p ++ [(j:Int)+(1+(i:Int))],0,cV, []⟩)) (T.put p (kk'.setKids (kK k.kids j xx' x.kids.length)))
 | 0,t,kk,xx,L,h,hK,hX,hw,hL=>by
   obtain rfl:t=x.kids.length:=P2
   exact⟨kk,xx,hK,hX,hw,hL⟩
 | m+1,t,kk,xx,L,h,hK,hX,hw,hL=>by
   have f:l9 T.bare p=some k.bare:=QK
   have g:j < k.kids.length:=(List.getElem?_eq_some_iff.1 hj).1;have l:j < (aY k.bare).length:=by rw [MT.kids_bare,O6];exact g
   have d:(aY k.bare)[j]=x.bare:=by
    have h1:=(List.getElem?_eq_some_iff.1 hj).2;simp only [MT.kids_bare,List.getElem_map];rw [h1]
   have a:=c P2;have b:=h_N hE hr f hl (j:=j) (t:=t) l (by rw [d,MT.kids_bare,O6];omega);have e:∀ (k0 x0:MT) (t:Nat),I0 k k0 ->I0 x x0 ->(T.put p (k0.setKids (kK k.kids j x0 t))).bare=jX T.bare p (setKids k.bare (rQ (aY k.bare) j x.bare t)):=fun k0 x0 t h1 h2=>by
    rw [DQ ha k0 h1.bare,b_p,MT.kids_bare,h2.bare]
   rw [d, <- e kk xx t hK hX, <- e kk.markIt xx.markIt (t+1) (hK.markIt hl) (hX.markIt a)]at b;have n:=KQ (o:=⟨5,p ++ [(j:Int),0],p ++ [(j:Int)+(1+(t:Int))],0,cV, []⟩) (.inr (.inr (.inr rfl))) P2 b
   simp only [show ¬ ((5:Int)=1)by decide,if_false,Nat.add_zero]at n;have h1:=k_t hok ha hl hK hj hX P2 a hw hL;obtain⟨kk',xx',g1,g2,g3,g4⟩:=e_X hj c m (t+1) kk.markIt xx.markIt _ P2 (hK.markIt hl) (hX.markIt a) P2 h1;refine⟨kk',xx',g1,g2,g3, ?_⟩;rw [List.range'_succ,List.map_cons,nQ b];exact g4
end
def mV (ks:List MT) (j:Nat) (x:MT) (t:Nat):List MT:=ks.take j ++ x.setKids ((ks.drop j).take t)::ks.drop (j+t)
theorem e_Y (ks:List MT) (j:Nat) (x:MT) (t:Nat):(mV ks j x t).map MT.bare=qV (ks.map MT.bare) j x.bare t:=by
 unfold mV qV;rw [List.map_append,List.map_cons,List.map_take,List.map_drop,MT.bare_setKids,List.map_take,List.map_drop]
theorem k_u {ks:List MT} {j:Nat} {x:MT} (hx:x.kids= []):mV ks j x 0=M8 ks j x:=by
 unfold mV M8;rw [List.take_zero, <- hx,MT.setKids_self,Nat.add_zero]
theorem m_R {ks:List MT} {j:Nat} {x:MT} {t:Nat} (hj:j+t <= ks.length):(mV ks j x t).length=ks.length - t+1:=by
 unfold mV;simp;omega
theorem i_N {ks:List MT} {j:Nat} {x:MT} {t:Nat} (hj:j <= ks.length):(mV ks j x t)[j]? =some (x.setKids ((ks.drop j).take t)):=by
 unfold mV;rw [OX P8]
 simp [O8 hj]
theorem k_v {ks:List MT} {j:Nat} {x:MT} {t:Nat} (hj:j+t < ks.length):(mV ks j x t)[j+1]? =some ks[j+t]:=by
 unfold mV;rw [OX P8]
 simp [O8 (show j <= ks.length by omega),show j+1 - j=1 by omega,NV hj]
theorem k_w {ks:List MT} {j:Nat} {x:MT} {t:Nat} (hj:j+t < ks.length):
 ((mV ks j x t).eraseIdx (j+1)).set j (x.setKids ((ks.drop j).take t ++ [ks[j+t]]))=mV ks j x (t+1):=by
 have hl:(ks.take j).length=j:=P8
 unfold mV;rw [List.eraseIdx_append_of_length_le P2,hl,show j+1 - j=1 by omega,List.eraseIdx_cons_succ,List.set_append_right _ _ P2,hl,Nat.sub_self,List.set_cons_zero,List.eraseIdx_zero,List.tail_drop];have e:(ks.drop j).take t ++ [ks[j+t]]=(ks.drop j).take (t+1):=by
  have hd:t < (ks.drop j).length:=P8
  rw [O1 hd,List.getElem_drop]
 rw [e,Nat.add_assoc]
theorem i_O {ks:List MT} {j:Nat} {x:MT} {t:Nat} (h:∀y∈ks,y.Ok) (hx:x.Ok):∀y∈mV ks j x t,y.Ok:=by
 unfold mV;exact yV (fun y hy=>h y (List.mem_of_mem_take hy)) (c_g (hx.setKids fun y hy=>h y (List.mem_of_mem_drop (List.mem_of_mem_take hy))) fun y hy=>h y (List.mem_of_mem_drop hy))
section
variable {T k : MT} {p : List Int} (hE : dQ T.bare = 0) (hr : b8 T.bare = false) (hok : T.Ok) (ha : T.at_ p = some k) (hl : b8 k.bare = false)
include hok ha hl
theorem k_x {j t:Nat} {x:MT} {L:List (List Int)} (hx:x.Ok) (d:x.mark=true) (ht:j+t < k.kids.length) (hw:(T.put p (k.markIt.setKids (mV k.kids j x t))).bare.wt <= 1000000) (hL:wV L (T.put p (k.markIt.setKids (mV k.kids j x t)))):
 wV (IY (T.put p (k.markIt.setKids (mV k.kids j x (t+1)))).bare L (fZ.full ⟨5,p ++ [(j:Int)+1],p ++ [(j:Int),(t:Int)],0,cV, []⟩)) (T.put p (k.markIt.setKids (mV k.kids j x (t+1)))):=by
 have hk:=MT.Ok.at_ p hok ha;have a:=MT.at_put p T k (k.markIt.setKids (mV k.kids j x t)) ha;have e:(T.put p (k.markIt.setKids (mV k.kids j x t))).Ok:=MT.Ok.put p hok ((hk.markIt hl).setKids (i_O hk.kids hx));obtain⟨i,l,hs⟩:=H7 hw a;have hlen:(k.markIt.setKids (mV k.kids j x t)).kids.length=k.kids.length - t+1:=by rw [MT.kids_setKids,m_R P2]
 have m:k.kids.length <= 1000000:=by
  have h1:=L0 (x.setKids ((k.kids.drop j).take t)).bare;have h2:=i7 (aY (x.setKids ((k.kids.drop j).take t)).bare);have h3:=L0 (k.markIt.setKids (mV k.kids j x t)).bare;rw [MT.kids_bare]at h3;have h4:(fY ((mV k.kids j x t).map MT.bare))=fY ((k.kids.take j).map MT.bare)+((x.setKids ((k.kids.drop j).take t)).bare.wt+fY ((k.kids.drop (j+t)).map MT.bare)):=by
   unfold mV;rw [List.map_append,List.map_cons,xX,fY]
  have h5:=i7 ((k.kids.take j).map MT.bare);have h6:=i7 ((k.kids.drop (j+t)).map MT.bare);rw [MT.kids_bare,MT.kids_setKids]at h1 h2;rw [O6,List.length_take,List.length_drop]at h2;rw [O6,List.length_take]at h5;rw [O6,List.length_drop]at h6;rw [O8 P2]at h2 h5;rw [MT.kids_setKids,h4]at h3;omega
 have hp:bX p=true:=a_n p _ _ (by rw [MT.at_bare,a];rfl) (show (T.put p (k.markIt.setKids (mV k.kids j x t))).bare.wt <= 1048576 by omega);have f:j+1 < (k.markIt.setKids (mV k.kids j x t)).kids.length:=P2
 have hg:=m_y (k:=k.markIt.setKids (mV k.kids j x t)) (x:=x.setKids ((k.kids.drop j).take t)) (j:=j) (t:=t) f P2 P2
  (by
    have h:=i_N (x:=x) (t:=t) (show j <= k.kids.length by omega);simp only [MT.kids_setKids];rw [NV (by rw [MT.kids_setKids]at hlen;omega)]at h;exact Option.some.inj h)
  (by rw [MT.kids_setKids];simp;omega) hs
 have g:(k.markIt.setKids (mV k.kids j x t)).kids[j+1]=k.kids[j+t]:=by
  have h:=k_v (x:=x) ht;simp only [MT.kids_setKids];rw [NV (by rw [MT.kids_setKids]at hlen;omega)]at h;exact Option.some.inj h
 rw [g]at hg;simp only [MT.kids_setKids,MT.setKids_setKids]at hg;rw [k_w ht]at hg;have c:(k.markIt.setKids (mV k.kids j x (t+1))).Ok:=(hk.markIt hl).setKids (i_O hk.kids hx)
 have h:=GZ (o:=fZ.full ⟨5, [(j:Int)+1], [(j:Int),(t:Int)],0,cV, []⟩) (ms:= [[], [(j:Int)]]) (k'':=k.markIt.setKids (mV k.kids j x (t+1))) hL a e P2 (by rw [show ((j:Int)+1)=((j+1:Nat):Int)by omega,rY,iZ (show j+1 <= 1048576 by omega)];rfl) (by rw [KZ,iZ (show j <= 1048576 by omega),iZ (show t <= 1048576 by omega)];rfl) h_3 P6 P6 P6 hg c
  (fun b h=> .inl h) (fun b h=>h)
  (fun b hb _=>by
    rcases OJ hb with rfl | hb
    . rw [MT.mk_nil,MT.mark_setKids,MT.mark_markIt]
    obtain rfl:=O9 hb;rw [gZ,MT.kids_setKids,i_N P2]
    show MT.mk? (x.setKids _) []=true
    rw [MT.mk_nil,MT.mark_setKids,d])
  (fun q _=>k_b hp P2 P2 q)
 rw [MT.put_put p T k _ _ ha]at h;exact h
include hE hr
theorem e_Z {j:Nat} {x:MT} (hx:x.Ok) (b:x.mark=true) (c:dQ x.bare=0) (d:b8 x.bare=false):∀ (m t:Nat) (L:List (List Int)),j+t+m <= k.kids.length ->(T.put p (k.markIt.setKids (mV k.kids j x t))).bare.wt <= 1000000 ->wV L (T.put p (k.markIt.setKids (mV k.kids j x t))) ->
 wV (mY (T.put p (k.markIt.setKids (mV k.kids j x t))).bare L ((List.range' t m).map fun i:Nat=>fZ.full ⟨5,p ++ [(j:Int)+1],p ++ [(j:Int),(i:Int)],0,cV, []⟩)) (T.put p (k.markIt.setKids (mV k.kids j x (t+m))))
 | 0,t,L,h,hw,hL=>hL
 | m+1,t,L,h,hw,hL=>by
   have f:l9 T.bare p=some k.bare:=QK
   have a:=h_O hE hr f hl (j:=j) (t:=t) c d (by rw [MT.kids_bare,O6];omega);have e:∀ (t:Nat),(T.put p (k.markIt.setKids (mV k.kids j x t))).bare=jX T.bare p (setKids k.bare (qV (aY k.bare) j x.bare t)):=fun t=>by
    rw [DQ ha k.markIt (MT.bare_markIt k),e_Y,MT.kids_bare]
   rw [<- e t, <- e (t+1)]at a;have g:=KQ (o:=⟨5,p ++ [(j:Int)+1],p ++ [(j:Int),(t:Int)],0,cV, []⟩) (.inr (.inr (.inr rfl))) P2 a
   simp only [show ¬ ((5:Int)=1)by decide,if_false,Nat.add_zero]at g;have h1:=k_x hok ha hl hx b P2 hw hL;rw [List.range'_succ,List.map_cons,nQ a];have h2:=e_Z hx b c d m (t+1) _ P2 P2 h1
   rwa [show t+1+m=t+(m+1)by omega]at h2
end
theorem i_P {r:bK} {ks:List MT} {f:vJ} (h:f.1=1∨f.1=5):a_O r ks f=ks.eraseIdx f.2.1.toNat:=by
 unfold a_O;rw [if_pos h]
theorem p_e {r:bK} {ks:List MT} {f:vJ} (h:f.1=2):a_O r ks f=ks.take f.2.1.toNat ++ ((tY ks f.2.1.toNat).kids ++ ks.drop (f.2.1.toNat+1)):=by
 unfold a_O;rw [if_neg P2,if_pos h]
theorem k_y {r:bK} {ks:List MT} {f:vJ} (h:f.1=3):a_O r ks f=mV ks f.2.1.toNat (EV true (gX (eQ r (tY ks f.2.1.toNat).bare).2)) f.2.2.toNat:=by
 unfold a_O mV;rw [if_neg P2,if_neg P2,if_pos h]
theorem m_S {r:bK} {ks:List MT} {f:vJ} (h:f.1=4):a_O r ks f=(ks.eraseIdx f.2.1.toNat).set (f.2.1.toNat - 1) (KX (tY ks (f.2.1.toNat - 1)) (tY ks f.2.1.toNat)):=by
 unfold a_O;rw [if_neg P2,if_neg P2,if_neg P2,if_pos h]
theorem p_f {r:bK} {ks:List MT} {f:vJ} (h:f.1=6):a_O r ks f= [if r.fill=1 then EV false (.mk true [] [] []) else EV true (gX r.fillT)]:=by
 unfold a_O;rw [if_neg P2,if_neg P2,if_neg P2,if_neg P2]
theorem p_g {s:b5} {T k:MT} {p:List Int} {L:List (List Int)} (hs:eJ s=0) (hE:dQ T.bare=0) (hr:b8 T.bare=false) (hw:T.bare.wt <= 900000) (hL:wV L T) (hok:T.Ok) (ha:T.at_ p=some k) (hf:(eV s k.bare).1≠0):
 wV (mY T.bare L ((nX (cJ s (dZ k.bare)) (aY k.bare) p (eV s k.bare)).map fZ.full)) (T.put p (k.markIt.fix s)):=by
 have l:l9 T.bare p=some k.bare:=QK
 have hl:=g_7 hf;have Q:=BJ p T.bare k.bare hE l;have C:=sQ Q;have n:=k_4 hs hf;have hk:=MT.Ok.at_ p hok ha;have hF:=B3 (AZ hs _ (IQ s (dZ k.bare))).1;have J:k.markIt.fix s=k.markIt.setKids (a_O (cJ s (dZ k.bare)) k.kids (eV s k.bare)):=by
  unfold MT.fix;rw [MT.bare_markIt,MT.kids_markIt]
 rw [J];rcases oV s k.bare with h | ⟨c,j, -,h1,h6,hj,he,y,h4,R⟩
 . rw [h]at hf;exact absurd rfl hf
 rw [he]at n⊢;clear J he hf;generalize cJ s (dZ k.bare)=r at hj n hF⊢;unfold i_p at n;simp only [O0]at n;obtain rfl | rfl | rfl | rfl | rfl | rfl:c=1∨c=2∨c=3∨c=4∨c=5∨c=6:=P2
 . have a:=y P2
   rw [zQ (.inl rfl)];simp only [O0,List.map_cons,List.map_nil];rw [kid_at a,i_P (.inl rfl)];simp only [O0];exact e_U hE hr P2 hL hok ha hl a
 . have a:=y P2
   have u:j < k.kids.length:=by rw [MT.kids_bare,O6]at a;exact a
   have z:k.kids[j]? =some k.kids[j]:=NV u;have b:(aY k.bare)[j]=k.kids[j].bare:=WX
   have D:tY k.kids j=k.kids[j]:=by simp [tY,List.getD,z]
   rw [a_9 rfl];simp only [O0];rw [kid_at a,b,p_e rfl];simp only [O0];rw [D];have d:dQ k.kids[j].bare=0:=by rw [<- b];exact C _ (NY a)
   have K:=hk.kids _ (NY u);generalize k.kids[j]=x at z d K b⊢;have f:0 < x.kids.length ->b8 x.bare=false:=fun h=>by
    cases S:b8 x.bare with
    | false=>rfl
    | true=>
      have h2:=D5 d S;rw [MT.kids_bare]at h2;rw [List.map_eq_nil_iff.1 h2]at h;simp at h
   have h0:k.setKids (kK k.kids j x 0)=k:=by
    unfold kK;rw [List.drop_zero,MT.setKids_self,List.take_zero,List.nil_append];have h:=NX u
    rw [(List.getElem?_eq_some_iff.1 z).2]at h;rw [<- h,List.take_append_drop,MT.setKids_self]
   have E:T.put p (k.setKids (kK k.kids j x 0))=T:=by rw [h0];exact MT.put_same p T k ha
   obtain⟨kk,xx,g1,g2,g3,g4⟩:=e_X hE hr hok ha hl z f x.kids.length 0 k x L P2 (I0.refl hk) (I0.refl K) (by rw [E];omega) (by rw [E];exact hL);rw [E]at g4;have F:=e_e hE hr l hl a (aY (aY k.bare)[j]).length 0 P2
   rw [e_c a,setKids_self,K5 p T.bare k.bare l,b,show (aY x.bare).length=x.kids.length by rw [MT.kids_bare,O6]]at F;rw [show (aY x.bare).length=x.kids.length by rw [MT.kids_bare,O6],List.map_append,List.map_map,List.range_eq_range'];have G:jX T.bare p (setKids k.bare (rQ (aY k.bare) j x.bare x.kids.length))=(T.put p (kk.setKids (kK k.kids j xx x.kids.length))).bare:=by
    rw [DQ ha kk g1.bare,b_p,MT.kids_bare,g2.bare]
   rw [G]at F;rw [a_p _ _ _ _ _ (show oZ T.bare (List.map (fZ.full ∘ fun i:Nat=>(⟨5,p ++ [(j:Int),0],p ++ [(j:Int)+(1+(i:Int))],0,cV, []⟩:fZ)) (List.range' 0 x.kids.length))=_ from F)];have M:=MT.at_put p T k (kk.setKids (kK k.kids j xx x.kids.length)) ha;have U:dQ (T.put p (kk.setKids (kK k.kids j xx x.kids.length))).bare=0:=by
    rw [<- G];exact LV hE l hl (c_y a b.symm C)
   have V:b8 (T.put p (kk.setKids (kK k.kids j xx x.kids.length))).bare=false:=by rw [<- G];exact(a_z l).trans hr
   have W:(T.put p (kk.setKids (kK k.kids j xx x.kids.length))).Ok:=MT.Ok.put p hok (g1.ok.setKids (e_W hk.kids g2.ok));have A:aY (kk.setKids (kK k.kids j xx x.kids.length)).bare=rQ (aY k.bare) j x.bare x.kids.length:=by
    rw [MT.kids_bare,MT.kids_setKids,b_p,MT.kids_bare,g2.bare]
   have B:j < (aY (kk.setKids (kK k.kids j xx x.kids.length)).bare).length:=by
    rw [A,a_A a (by rw [MT.kids_bare,O6];exact a8)];omega
   have X:b8 (kk.setKids (kK k.kids j xx x.kids.length)).bare=false:=by
    rw [MT.bare_setKids,mK,g1.bare];exact hl
   have h2:=e_U U V g3 g4 W M X B;have H:(aY (kk.setKids (kK k.kids j xx x.kids.length)).bare)[j]=jY x.bare:=by
    have h:=e_d (x:=x.bare) (t:=x.kids.length) a;rw [<- A,NV B]at h;rw [Option.some.inj h,List.drop_eq_nil_of_le (by rw [MT.kids_bare,O6];exact a8)]
    cases x;rfl
   rw [H,MT.put_put p T k _ _ ha,MT.markIt_setKids,MT.setKids_setKids,MT.kids_setKids,g1.mark]at h2;rw [show (kK k.kids j xx x.kids.length).eraseIdx j=k.kids.take j ++ (x.kids ++ k.kids.drop (j+1))by
    unfold kK;rw [List.eraseIdx_append_of_length_le P8,g2.kids]
    simp [O8 (Nat.le_of_lt u)]]at h2
   exact h2
 . have a:=y P2
   have u:j < k.kids.length:=by rw [MT.kids_bare,O6]at a;exact a
   have hm:=c_A r (aY k.bare) j a u_1;have Y:=(c_1 a u_1).1;have H4:=a_s (b_Z (b_Y hF _) Y);have N:=c_d (eQ r (aY k.bare)[j]).2;have d:=n.1 rfl;rw [GQ rfl];simp only [O0];have Z:j7 r (aY k.bare) ((3:Nat):Int)=j7 r (aY k.bare) 3:=rfl
   rw [Z];have D:(tY k.kids j).bare=cY (aY k.bare) j:=by rw [KY,MT.kids_bare]
   rw [k_y rfl];simp only [O0];rw [D];generalize j7 r (aY k.bare) 3=m at hm⊢;rw [<- kid_at a]at N;have f:b8 (gX (eQ r (cY (aY k.bare) j)).2)=false:=rfl
   have g:aY (gX (eQ r (cY (aY k.bare) j)).2)= []:=rfl;rw [kid_at a]at N d f g⊢;have H0:(gX (eQ r (aY k.bare)[j]).2).wt <= 100:=P2
   generalize gX (eQ r (aY k.bare)[j]).2=x at d f g H0⊢;have b:(EV false x).bare=x:=zV _ _ g;have v:=d_E hE hr l hl (m:=x) d (i:=j) (Nat.le_of_lt a);have h0:=e_V hE hr P2 hL hok ha hl (j:=j) (x:=EV false x) (Nat.le_of_lt u) (by rw [b];exact d) rfl (e_T x) (EV true x) (.inr ⟨i_M x,by rw [b];exact f⟩);rw [b,nQ v]at h0;have H:(EV true x).kids= []:=rfl
   rw [<- k_u H]at h0;have H1:jX T.bare p (setKids k.bare (C6 (aY k.bare) j x))=(T.put p (k.markIt.setKids (mV k.kids j (EV true x) 0))).bare:=by
    rw [DQ ha k.markIt (MT.bare_markIt k),e_Y, <- MT.kids_bare,zV _ _ g,e_f g]
   have O:=KQ (o:=⟨1,p ++ [(j:Int)], [],0,x, []⟩) (.inl rfl) P2 v;simp only [if_true]at O;rw [List.map_cons,nQ v,List.map_map,List.range_eq_range'];rw [H1]at h0 O⊢;have h2:=e_Z hE hr hok ha hl (j:=j) (h_h f) rfl (by rw [zV _ _ g];exact d) (by rw [zV _ _ g];exact f) m 0 _ (by rw [MT.kids_bare,O6]at hm;omega) P2 h0
   rw [O5]at h2;exact h2
 . have H2:gV r (aY k.bare) 4=j:=hj
   obtain⟨g1,g2,g3,g4,g5⟩:=a_i H2;rw [K8 rfl];simp only [O0,List.map_cons,List.map_nil];obtain⟨i,rfl⟩:∃i,j=i+1:=⟨j - 1,by omega⟩;have e:i+1 - 1=i:=P2
   rw [m_S rfl];simp only [O0];rw [e]at g4⊢;rw [kid_at g2]at g3;rw [kid_at (show i < (aY k.bare).length by omega)]at g4;rw [kid_at g2,kid_at (show i < (aY k.bare).length by omega)];exact p_c hE hr P2 hL hok ha hl g2 g4 g3 fun q hq H3=>D5 (C q hq) H3
 . have a:=y P2
   rw [zQ (.inr rfl)];simp only [O0,List.map_cons,List.map_nil];rw [kid_at a,i_P (.inr rfl)];simp only [O0];exact e_U hE hr P2 hL hok ha hl a
 obtain rfl:=R rfl;rw [a_a rfl];simp only [List.map_cons,List.map_nil];have P:k.kids= []:=by
  have I:gV r (aY k.bare) 6=0:=hj;rw [AY]at I;split at I
  . rename_i h
    have:=O2 h.1;rw [MT.kids_bare]at this;exact List.map_eq_nil_iff.1 this
  cases I
 rw [p_f rfl,show [if r.fill=1 then EV false (.mk true [] [] []) else EV true (gX r.fillT)]=M8 k.kids 0 (if r.fill=1 then EV false (.mk true [] [] []) else EV true (gX r.fillT))by rw [P];rfl]
 by_cases w:r.fill=1
 . rw [if_pos w,if_pos w]
   exact e_V hE hr P2 hL hok ha hl (j:=0) (x:=EV false (.mk true [] [] [])) (Nat.zero_le _) (by rw [zV _ _ rfl];exact a_j) rfl (e_T _) _ (.inl ⟨rfl,rfl⟩)
 rw [if_neg w,if_neg w];have h:=e_V hE hr P2 hL hok ha hl (j:=0) (x:=EV false (gX r.fillT)) (Nat.zero_le _) (by rw [zV _ _ (D8 _)];exact n.2 rfl w) rfl (e_T _) (EV true (gX r.fillT)) (.inr ⟨i_M _,by rw [zV _ _ (D8 _)];rfl⟩);rw [zV _ _ (D8 _)]at h;exact h
theorem f_0 {want:aX ->Bool}:∀ (ks:List aX) (j:Nat) (q:List Int) (m:Nat) (k:aX) (x:List Int),ks[m]? =some k ->x∈jZ want k (q ++ [((j+m:Nat):Int)]) ->x∈kV want ks j q
 | [],j,q,m,k,x,h,_=>by simp at h
 | c::ks,j,q,0,k,x,h,hx=>by
   simp at h
   subst h;unfold kV;exact List.mem_append.2 (.inl TQ)
 | c::ks,j,q,m+1,k,x,h,hx=>by
   unfold kV;refine List.mem_append.2 (.inr (f_0 ks (j+1) q m k x TX ?_));rw [show j+1+m=j+(m+1)by omega];exact hx
theorem g_f:∀ (p:List Int) (n k:aX) (q:List Int),l9 n p=some k ->q ++ p∈jZ (fun _=>true) n q
 | [], .mk l ps t ks,k,q,_=>by unfold jZ;simp
 | i ::p, .mk l ps t ks,k,q,h=>by
   rw [l9]at h;split at h
   . rename_i hi
     cases hk:ks[i.toNat]? with
     | none=>rw [show (aY (.mk l ps t ks))[i.toNat]? =ks[i.toNat]? from rfl,hk]at h;cases h
     | some c=>
       rw [show (aY (.mk l ps t ks))[i.toNat]? =ks[i.toNat]? from rfl,hk]at h;have ih:=g_f p c k (q ++ [i]) h;unfold jZ;refine List.mem_append.2 (.inr (f_0 ks 0 q i.toNat c _ hk ?_));rw [show ((0+i.toNat:Nat):Int)=i by omega]
       simpa using ih
   cases h
theorem EY {n:aX} {q:List Int} (h:dX n q=true):q∈xQ n:=by
 unfold dX at h;cases a:l9 n q with
 | none=>rw [a]at h;cases h
 | some k=>simpa using g_f q n k [] a
abbrev k_z (n:aX):List (List Int):=(xQ n).filter (dX n)
theorem m_T {n:aX} {x:List Int}:d_w (k_z n) x=true ↔ ∃q,dX n q=true/\q <+:x:=by
 rw [cov_iff];constructor
 . rintro⟨q,h1,h2⟩;exact⟨q,(List.mem_filter.1 h1).2,h2⟩
 rintro⟨q,h1,h2⟩;exact⟨q,List.mem_filter.2 ⟨EY h1,h1⟩,h2⟩
def q_Z (n:aX):Nat:=M3 n (oY (k_z n))
theorem l_o {n:aX} (hw:n.wt <= 1048576):q_Z n=(xQ n).countP (d_w (k_z n)):=by
 unfold q_Z;rw [g_V hw];congr 1
 funext x
 rw [Bool.eq_iff_iff,cov_iff,cov_iff];constructor
 . rintro⟨q,h1,h2⟩;exact⟨q,m4.1 (List.mem_filter.1 h1).1,h2⟩
 rintro⟨q,h1,h2⟩;exact⟨q,List.mem_filter.2 ⟨m4.2 h1,(List.mem_filter.1 h1).2⟩,h2⟩
theorem m_U {n:aX} (hw:n.wt <= 1048576) (L:List (List Int)):M3 n L <= q_Z n:=by
 rw [g_V hw,l_o hw];refine List.countP_mono_left fun x _ h=> ?_
 obtain⟨q,h1,h2⟩:=cov_iff.1 h;exact m_T.2 ⟨q,(List.mem_filter.1 h1).2,h2⟩
theorem r_0 {n:aX} (hw:n.wt <= 1048576):q_Z n <= n.wt:=by
 rw [l_o hw];exact aJ (List.countP_le_length) (uK _ n [])
mutual
theorem f_1 (want:aX ->Bool):∀ (n:aX) (p q:List Int),jZ want n (p ++ q)=(jZ want n q).map (p ++ ·)
 | .mk l ps t ks,p,q=>by
   unfold jZ;rw [List.map_append,f_2 want ks 0 p q];split <;> simp
theorem f_2 (want:aX ->Bool):∀ (ks:List aX) (i:Nat) (p q:List Int),kV want ks i (p ++ q)=(kV want ks i q).map (p ++ ·)
 | [],i,p,q=>rfl
 | k::ks,i,p,q=>by
   unfold kV;rw [List.map_append,O4,f_1 want k p (q ++ [(i:Int)]),f_2 want ks (i+1) p q]
end
mutual
theorem d_r (want:aX ->Bool):∀ (n:aX) (p x:List Int),x∈jZ want n p ->x.length <= p.length+n.wt
 | .mk l ps t ks,p,x=>by
   intro h;unfold jZ at h;rcases OQ h with h | h
   . split at h
     . rw [O9 h];omega
     simp at h
   have:=d_s want ks 0 p x h;simp only [aX.wt];omega
theorem d_s (want:aX ->Bool):∀ (ks:List aX) (i:Nat) (p x:List Int),x∈kV want ks i p ->x.length <= p.length+1+fY ks
 | [],i,p,x=>by intro h;unfold kV at h;simp at h
 | k ::ks,i,p,x=>by
   intro h;unfold kV at h;simp only [fY];rcases OQ h with h | h
   . have:=d_r want k _ x h
     simp at this;omega
   have:=d_s want ks (i+1) p x h
   omega
end
def a_t (picks:List Int) (k n:Nat):Nat:=(picks.getD k 0 % (n:Int)).toNat
def MT.opsAt (s:b5) (T:MT) (p:List Int):List fZ:=match T.at_ p with
 | some k=>if (eV s k.bare).1=0 then [] else nX (cJ s (dZ k.bare)) (aY k.bare) p (eV s k.bare)
 | none=> []
inductive wX (s:b5) (picks:List Int):Nat ->MT ->MT ->Nat ->List fZ ->Prop
 | done {k:Nat} {T:MT} (h:∀q,T.mk? q=false):wX s picks k T T k []
 | step {k m:Nat} {T A:MT} {ops:List fZ} {L:List (List Int)} {p:List Int} (hL:wV L T) (hp:(m5 L)[a_t picks k (m5 L).length]? =some p) (r:wX s picks (k+1) (T.look s p) A m ops):wX s picks k T A m (T.opsAt s p ++ ops)
theorem g_g:∀ {l:List (List Int)},l.Pairwise (fun a b=>¬a <+:b/\¬b <+:a) ->∀ {r p:List Int},r∈l ->p∈l ->r≠p ->¬r <+:p
 | [],_,r,p,hr,hp,c=>by cases hr
 | x ::l,h,r,p,hr,hp,c=>by
   obtain⟨h1,h2⟩:=List.pairwise_cons.1 h;rcases OJ hr with e | f
   . rcases OJ hp with e2 | d
     . exact absurd (e.trans e2.symm) c
     rw [e];exact(h1 _ d).1
   rcases OJ hp with e2 | d
   . rw [e2];exact(h1 _ f).2
   exact g_g h2 f d c
theorem yX {T:MT} {L:List (List Int)} (h:wV L T) {p:List Int} (hp:p∈m5 L):T.top p:=by
 obtain⟨h1,h2,h3⟩:=IK L h.1;refine⟨(h.2 p).1 (h1 p hp),fun q hq b=> ?_⟩
 cases hm:T.mk? q with
 | false=>rfl
 | true=>
   obtain⟨r,hr,a⟩:=h3 q ((h.2 q).2 hm)
   by_cases e:r=p
   . subst e
     exact absurd (hq.eq_of_length (Nat.le_antisymm hq.length_le a.length_le)) b
   exact absurd (a.trans hq) (g_g h2 hr hp e)
theorem f_3 {T:MT} {L:List (List Int)} (h:wV L T) (hr:m5 L= []):∀q,T.mk? q=false:=fun q=>by
 cases hm:T.mk? q with
 | false=>rfl
 | true=>
   obtain⟨r,a, -⟩:=(IK L h.1).2.2 q ((h.2 q).2 hm);rw [hr]at a;cases a
theorem g_h {T:MT} {L:List (List Int)} (h:wV L T) (hn:∀q,T.mk? q=false):L= []:=by
 cases L with
 | nil=>rfl
 | cons q L=>have:=(h.2 q).1 P6;rw [hn q]at this;cases this
theorem l_p (picks:List Int) (k:Nat) {n:Nat} (hn:0 < n):a_t picks k n < n:=by
 unfold a_t;have h1:=Int.emod_nonneg (picks.getD k 0) (show ((n:Int))≠0 by omega)
 have h2:=Int.emod_lt_of_pos (picks.getD k 0) (show (0:Int) < n by omega)
 omega
mutual
def MT.ofL (f:List Int ->Bool):aX ->List Int ->MT
 | .mk l ps t ks,q=> .mk (f q && !l) l ps t (MT.ofK f ks 0 q)
def MT.ofK (f:List Int ->Bool):List aX ->Nat ->List Int ->List MT
 | [],_,_=> []
 | k::ks,i,q=>MT.ofL f k (q ++ [(i:Int)])::MT.ofK f ks (i+1) q
end
mutual
theorem i_Q (f:List Int ->Bool):∀ (n:aX) (q:List Int),(MT.ofL f n q).bare=n
 | .mk l ps t ks,q=>by rw [MT.ofL,MT.bare,MT.bares_map,i_R f ks 0 q]
theorem i_R (f:List Int ->Bool):∀ (ks:List aX) (i:Nat) (q:List Int),(MT.ofK f ks i q).map MT.bare=ks
 | [],i,q=>rfl
 | k::ks,i,q=>by rw [MT.ofK,List.map_cons,i_Q f k,i_R f ks]
end
theorem l_q (f:List Int ->Bool):∀ (ks:List aX) (i:Nat) (q:List Int) (j:Nat),(MT.ofK f ks i q)[j]? =(ks[j]?).map fun k=>MT.ofL f k (q ++ [((i+j:Nat):Int)])
 | [],i,q,j=>by simp [MT.ofK]
 | k::ks,i,q,0=>by simp [MT.ofK]
 | k::ks,i,q,j+1=>by
   rw [MT.ofK,List.getElem?_cons_succ,List.getElem?_cons_succ,l_q f ks (i+1) q j,show i+1+j=i+(j+1)by omega]
theorem p_h (f:List Int ->Bool):∀ (r:List Int) (n:aX) (q:List Int),(MT.ofL f n q).mk? r=(f (q ++ r) && dX n r)
 | [], .mk l ps t ks,q=>by
   rw [MT.ofL,MT.mk_nil,List.append_nil];rfl
 | c ::r, .mk l ps t ks,q=>by
   rw [MT.ofL];unfold MT.mk? dX l9;by_cases h0:0 <= c
   . obtain ⟨j,rfl⟩:∃j:Nat,c=j:=⟨c.toNat,by omega⟩
     rw [if_pos h0,if_pos h0,O0];simp only [MT.kids,aY];rw [l_q,O5];cases hj:ks[j]? with
     | none=>simp
     | some k=>
       simp only [Option.map];rw [p_h f r k,O4];rfl
   rw [if_neg h0,if_neg h0];simp
mutual
theorem p_i (f:List Int ->Bool):∀ (n:aX) (q:List Int),(MT.ofL f n q).Ok
 | .mk l ps t ks,q=>by
   rw [MT.ofL];exact .mk (fun h=>by simp at h;exact h.2) (p_j f ks 0 q)
theorem p_j (f:List Int ->Bool):∀ (ks:List aX) (i:Nat) (q:List Int),∀x∈MT.ofK f ks i q,x.Ok
 | [],i,q=>by simp [MT.ofK]
 | k::ks,i,q=>by
   rw [MT.ofK];exact c_g (p_i f k _) (p_j f ks (i+1) q)
end
def MT.on (L:List (List Int)) (n:aX):MT:=MT.ofL (fun q=>decide (q∈L)) n []
theorem mZ (L:List (List Int)) (n:aX):(MT.on L n).bare=n:=i_Q _ n []
theorem i_S (L:List (List Int)) (n:aX):(MT.on L n).Ok:=p_i _ n []
theorem l_r (L:List (List Int)) (n:aX) (q:List Int):(MT.on L n).mk? q=true ↔ q∈L/\dX n q=true:=by
 unfold MT.on;rw [p_h];simp
theorem h_i (L:List (List Int)) (n:aX):wV (oY (L.filter (dX n))) (MT.on L n):=by
 refine⟨j8 _,fun q=> ?_⟩;rw [m4,List.mem_filter,l_r]
theorem J2 {L L':List (List Int)} {T:MT} (h:wV L T) (h':wV L' T):L=L':=sK h.1 h'.1 fun q=>by rw [h.2,h'.2]
theorem m_V (T:MT) (hok:T.Ok):∃L,wV L T:=by
 refine⟨oY ((xQ T.bare).filter T.mk?),j8 _,fun q=> ?_⟩;rw [m4,List.mem_filter];refine⟨fun h=>h.2,fun h=>⟨EY (MT.Ok.elem q hok h),h⟩⟩
theorem p_k {s:b5} (hs:eJ s=0) {k:MT} (hE:dQ k.bare=0) (h:k.Ok):(k.look1 s).Ok:=by
 unfold MT.look1;split
 . cases h with
   | mk h1 h2=>exact .mk P6 h2
 rename_i hf
 unfold MT.fix;refine h.setKids ?_;have hk:=h.kids;have f:=sQ hE;rcases oV s k.bare with e | ⟨c,j, -,h1,h6,hj,he,g,h4,n⟩
 . rw [e]at hf;exact absurd rfl hf
 rw [he];generalize cJ s (dZ k.bare)=r at hj⊢;have d:∀i,(tY k.kids i).Ok:=fun i=>by
  unfold tY;rw [List.getD];cases hi:k.kids[i]? with
  | none=>exact l_n _
  | some x=>exact hk x (List.mem_of_getElem? hi)
 unfold a_O;split
 . exact fun x hx=>hk x (List.mem_of_mem_eraseIdx hx)
 split
 . exact yV (fun x hx=>hk x (List.mem_of_mem_take hx)) (yV (d _).kids fun x hx=>hk x (List.mem_of_mem_drop hx))
 split
 . exact yV (fun x hx=>hk x (List.mem_of_mem_take hx)) (c_g ((h_h rfl).setKids fun x hx=>hk x (List.mem_of_mem_drop (List.mem_of_mem_take hx))) fun x hx=>hk x (List.mem_of_mem_drop hx))
 split
 . intro x hx
   rcases List.mem_or_eq_of_mem_set hx with hx | rfl
   . exact hk x (List.mem_of_mem_eraseIdx hx)
   have g1:=d (((j:Int).toNat) - 1);have g2:=d ((j:Int).toNat);generalize tY k.kids (((j:Int).toNat) - 1)=a at g1⊢;generalize tY k.kids ((j:Int).toNat)=b at g2⊢;obtain⟨m,l,ps,t,ks⟩:=a;obtain⟨m',l',ps',t',ks'⟩:=b
   cases g1;cases g2
   rename_i a1 a2 b1 b2
   exact .mk a1 (yV a2 b2)
 intro x hx;rw [O9 hx];split
 . exact l_n _
 exact h_h rfl
theorem c_h {s:b5} (hs:eJ s=0) {T:MT} (p:List Int) (hE:dQ T.bare=0) (h:T.Ok):(T.look s p).Ok:=by
 unfold MT.look;cases ha:T.at_ p with
 | none=>exact h
 | some k=>exact MT.Ok.put p h (p_k hs (BJ p _ _ hE (show l9 T.bare p=some k.bare by rw [MT.at_bare,ha];rfl)) (MT.Ok.at_ p h ha))
theorem g_i {s:b5} (hs:eJ s=0) (T:MT) (p:List Int):T.wrong s p=0/\T.opsAt s p= []∨T.wrong s p=1/\T.opsAt s p≠ []:=by
 unfold MT.wrong MT.opsAt;cases ha:T.at_ p with
 | none=>exact .inl ⟨rfl,rfl⟩
 | some k=>
   simp only;by_cases hf:(eV s k.bare).1=0
   . rw [if_pos hf,if_pos hf];exact .inl ⟨rfl,rfl⟩
   rw [if_neg hf,if_neg hf];refine .inr ⟨rfl, ?_⟩;rcases oV s k.bare with h | ⟨c,j,hl,h1,h6,hj,he,a,h4,b⟩
   . rw [h]at hf;exact absurd rfl hf
   rw [he];obtain rfl | rfl | rfl | rfl | rfl | rfl:c=1∨c=2∨c=3∨c=4∨c=5∨c=6:=P2
   . rw [zQ (.inl rfl)];simp
   . rw [a_9 rfl];simp
   . rw [GQ rfl];simp
   . rw [K8 rfl];simp
   . rw [zQ (.inr rfl)];simp
   rw [a_a rfl];simp
theorem a_u {s:b5} (hs:eJ s=0) (picks:List Int):∀ (m k:Nat) (T:MT),muT s T <= m ->dQ T.bare=0 ->T.Ok ->∃A e ops,wX s picks k T A e ops/\k <= e/\e <= k+muT s T
 | m,k,T,hm,hE,hok=>by
   obtain⟨L,hL⟩:=m_V T hok
   by_cases hr:m5 L= []
   . exact⟨T,k, [], .done (f_3 hL hr),a8,by omega⟩
   have c:=l_p picks k (List.length_pos_iff.2 hr);obtain⟨p,hp⟩:∃p,(m5 L)[a_t picks k (m5 L).length]? =some p:=⟨_,NV c⟩;have a:=yX hL (List.mem_of_getElem? hp);have hl:=d_H hs a hE
   cases m with
   | zero=>omega
   | succ m=>
     obtain⟨A,e,ops,b,h1,h2⟩:=a_u hs picks m (k+1) (T.look s p) P2 (qZ hs p hE) (c_h hs p hE hok);exact⟨A,e,_, .step hL hp b,by omega,by omega⟩
theorem wX.runR {s:b5} (hs:eJ s=0) {picks:List Int} {k m:Nat} {T A:MT} {ops:List fZ} (h:wX s picks k T A m ops):k <= m/\∃d,f_z s T A (m - k) d/\(d=0 ↔ ops= []):=by
 induction h with
 | done h=>exact⟨a8,0,by rw [Nat.sub_self];exact .done h,by simp⟩
 | step hL hp r ih=>
   rename_i k m T A ops L p
   obtain⟨h1,d,h2,h3⟩:=ih;have a:=yX hL (List.mem_of_getElem? hp);refine⟨by omega,d+T.wrong s p, ?_, ?_⟩
   . have h:=f_z.step a h2
     rwa [show m - (k+1)+1=m - k by omega]at h
   rcases g_i hs T p with⟨e1,e2⟩ | ⟨e1,e2⟩
   . rw [e1,e2,Nat.add_zero,List.nil_append];exact h3
   rw [e1]
   constructor
   . intro h;omega
   intro h;exact absurd (List.append_eq_nil_iff.1 h).1 e2
theorem k_A {T:MT} (h:∀r,T.mk? r=false):∀x∈T.kids,∀r,x.mk? r=false:=fun x hx r=>by
 obtain⟨j,hj,rfl⟩:=List.mem_iff_getElem.1 hx;rw [<- MT.mk_cons hj];exact h _
theorem m_W (r:bK) (ks:List aX) (p:List Int) (f:vJ):∀o∈nX r ks p f,o.dest.length <= p.length+2:=by
 intro o ho;unfold nX at ho;split at ho
 . rw [O9 ho];simp
 split at ho
 . rcases OQ ho with ho | ho
   . obtain ⟨i, -,rfl⟩:=OV ho
     simp
   rw [O9 ho];simp
 split at ho
 . rcases OJ ho with rfl | ho
   . simp
   obtain⟨i, -,rfl⟩:=OV ho
   simp
 split at ho
 . rw [O9 ho];simp
 rw [O9 ho];simp
theorem FY {s:b5} {T k:MT} {p:List Int} (ha:T.at_ p=some k):T.look s p=T.put p (k.look1 s):=t_p
theorem c_i {s:b5} {T k:MT} {p:List Int} (ha:T.at_ p=some k) (hf:(eV s k.bare).1≠0):T.opsAt s p=nX (cJ s (dZ k.bare)) (aY k.bare) p (eV s k.bare):=by
 unfold MT.opsAt;rw [ha];simp only;rw [if_neg hf]
theorem MK {s:b5} {T k:MT} {p:List Int} (ha:T.at_ p=some k) (hf:(eV s k.bare).1=0):T.opsAt s p= []:=by
 unfold MT.opsAt;rw [ha];simp only;rw [if_pos hf]
theorem i_T {s:b5} {T k:MT} {p:List Int} (hs:eJ s=0) (hE:dQ T.bare=0) (hr:b8 T.bare=false) (hw:T.bare.wt <= 899000) (ha:T.at_ p=some k) (hf:(eV s k.bare).1≠0):
 oZ T.bare ((T.opsAt s p).map fZ.full)=some (T.look s p).bare/\(∀o∈T.opsAt s p,m_Q o/\o.dest.length <= T.bare.wt+2)/\lK (T.opsAt s p) <= 100/\(T.look s p).bare.wt <= T.bare.wt+100:=by
 have a:l9 T.bare p=some k.bare:=QK
 have c:=zJ p T.bare k.bare a;have d:=a_q p T.bare k.bare a;have hl:(T.look s p).bare=jX T.bare p (setKids k.bare (a_8 (cJ s (dZ k.bare)) (aY k.bare) (eV s k.bare))):=by
  rw [FY ha,MT.bare_put p T k _ ha];unfold MT.look1;rw [if_neg hf,MT.bare_fix]
 obtain⟨h1,h2, -⟩:=q_Y (n:=T.bare) hs (show k.bare.wt <= 900000 by omega) (show p.length <= 900000 by omega) hf;have b:=o_G hE hr a hf (k_4 hs hf);rw [c_i ha hf,hl];refine⟨b,fun o ho=>⟨h1 o ho, ?_⟩,h2, ?_⟩
 . have:=m_W _ _ _ _ o ho
   omega
 have:=l_m _ _ _ h1 P2 b
 omega
theorem g_j {s:b5} {T k:MT} {p:List Int} (ha:T.at_ p=some k):b8 (T.look s p).bare=b8 T.bare:=by
 have a:l9 T.bare p=some k.bare:=QK
 rw [FY ha,MT.bare_put p T k _ ha];refine h_K p _ _ _ a ?_;unfold MT.look1;split
 . rw [MT.bare_unmark]
 rw [MT.bare_fix,mK]
theorem m_X {s:b5} {T k:MT} {p:List Int} {L:List (List Int)} (hs:eJ s=0) (hE:dQ T.bare=0) (hr:b8 T.bare=false) (hw:T.bare.wt <= 900000) (hL:wV L T) (hok:T.Ok) (ha:T.at_ p=some k) (hm:k.mark=true) (hf:(eV s k.bare).1≠0):
 wV (mY T.bare L ((T.opsAt s p).map fZ.full)) (T.look s p):=by
 have h:=p_g hs hE hr hw hL hok ha hf;rw [MT.markIt_self hm]at h;rw [c_i ha hf,FY ha];unfold MT.look1;rw [if_neg hf];exact h
theorem f_4 {s:b5} {T k:MT} {p:List Int} {L:List (List Int)} (hL:wV L T) (ha:T.at_ p=some k) (hf:(eV s k.bare).1=0):wV (L.filter fun q=> !decide (p=q)) (T.look s p):=by
 rw [FY ha];unfold MT.look1;rw [if_pos hf];refine⟨List.Pairwise.filter _ hL.1,fun q=> ?_⟩;rw [List.mem_filter,hL.2];have d:=MT.at_put p T k k.unmark ha
 by_cases a:p <+:q
 . obtain ⟨b,rfl⟩:=a
   rw [MT.mk_app p b _ _ d,MT.mk_app p b T k ha];cases b with
   | nil=>simp [MT.mk_nil,MT.mark_unmark]
   | cons c r=>
     have e:k.unmark.mk? (c::r)=k.mk? (c::r):=by
      conv=>lhs;unfold MT.mk?
      conv=>rhs;unfold MT.mk?
      rw [MT.kids_unmark]
     rw [e];simp
 rw [MT.mk_put2 p q T k _ ha a];have:p≠q:=fun e=>a (by rw [e];exact List.prefix_rfl)
 simp [this]
mutual
def DV:aX ->Nat
 | .mk _ _ _ ks=>1+F5 ks
def F5:List aX ->Nat
 | []=>0
 | k::ks=>DV k+F5 ks
end
mutual
theorem a_X:∀ (n:aX) (p:List Int),(jZ (fun _=>true) n p).length=DV n
 | .mk l ps t ks,p=>by
   rw [jZ,NZ,a_Y ks 0 p,DV];simp
theorem a_Y:∀ (ks:List aX) (i:Nat) (p:List Int),(kV (fun _=>true) ks i p).length=F5 ks
 | [],i,p=>rfl
 | k::ks,i,p=>by rw [kV,NZ,a_X k,a_Y ks,F5]
end
mutual
theorem g_k {s:b5} (hs:eJ s=0) (c:Bool):∀n:aX,J9 s c n+KV s <= KV s * DV n
 | .mk l ps t ks=>by
   rw [J9,DV,Nat.mul_add,Nat.mul_one];have:=g_l hs (cJ s (dZ (.mk l ps t []))) c ks
   omega
theorem g_l {s:b5} (hs:eJ s=0) (r:bK) (c:Bool):∀ks:List aX,vK s r c ks <= KV s * F5 ks
 | []=>by simp [vK]
 | k::ks=>by
   rw [oK,F5,Nat.mul_add];have h1:=g_k hs false k
   have h2:=g_l hs r c ks;have h3:=l_d hs r c k
   omega
end
theorem p_l {s:b5} (hs:eJ s=0) (n:aX):c_6 s n <= KV s * DV n:=by
 unfold c_6;have h1:=c_5 hs n
 have h2:=g_k hs true n
 omega
mutual
def f_5:MT ->Nat
 | .mk m l ps t ks=>if m then DV (.mk l ps t (MT.bares ks)) else f_6 ks
def f_6:List MT ->Nat
 | []=>0
 | k::ks=>f_5 k+f_6 ks
end
mutual
theorem k_B {s:b5} (hs:eJ s=0):∀T:MT,muT s T <= KV s * f_5 T
 | .mk m l ps t ks=>by
   rw [muT,f_5];split
   . exact p_l hs _
   exact l_s hs ks
theorem l_s {s:b5} (hs:eJ s=0):∀ks:List MT,muK s ks <= KV s * f_6 ks
 | []=>by simp [muK]
 | k::ks=>by
   rw [muK,f_6,Nat.mul_add];have h1:=k_B hs k
   have h2:=l_s hs ks
   omega
end
mutual
def MT.cov:MT ->List Int ->Bool
 | .mk m l ps t ks, []=>m
 | .mk m l ps t ks,c::r=>m || (decide (0 <= c) && MT.covK ks c.toNat r)
def MT.covK:List MT ->Nat ->List Int ->Bool
 | [],_,_=>false
 | k::_,0,r=>k.cov r
 | _::ks,j+1,r=>MT.covK ks j r
end
theorem f_7:∀ (ks:List MT) (j:Nat) (r:List Int),MT.covK ks j r=match ks[j]? with | some k=>k.cov r | none=>false
 | [],j,r=>by simp [MT.covK]
 | k::ks,0,r=>by simp [MT.covK]
 | k::ks,j+1,r=>by rw [MT.covK,f_7 ks j r];simp
theorem MT.cov_iff:∀ (x:List Int) (T:MT),T.cov x=true ↔ ∃q,q <+:x/\T.mk? q=true
 | [], .mk m l ps t ks=>by
   rw [MT.cov];constructor
   . intro h;exact⟨[],List.nil_prefix,h⟩
   rintro⟨q,hq,h⟩;obtain rfl:=List.prefix_nil.1 hq;exact h
 | c ::r, .mk m l ps t ks=>by
   rw [MT.cov,Bool.or_eq_true,Bool.and_eq_true,decide_eq_true_eq,f_7];constructor
   . rintro (h | ⟨h0,h⟩)
     . exact⟨[],List.nil_prefix,h⟩
     obtain⟨j,rfl⟩:∃j:Nat,c=j:=⟨c.toNat,by omega⟩;rw [O0]at h;cases hk:ks[j]? with
     | none=>rw [hk]at h;cases h
     | some k=>
       rw [hk]at h;obtain⟨q,hq,h2⟩:=(MT.cov_iff r k).1 h;exact⟨(j:Int)::q,List.cons_prefix_cons.2 ⟨rfl,hq⟩,by rw [gZ];show (match ks[j]? with | some k=>k.mk? q | none=>false)=true;rw [hk];exact h2⟩
   rintro⟨q,hq,h⟩
   cases q with
   | nil=>exact .inl h
   | cons d q=>
     obtain⟨rfl,a⟩:=List.cons_prefix_cons.1 hq;obtain⟨j,rfl,hj,h2⟩:=MT.mk_cons_true h;refine .inr ⟨by omega, ?_⟩;rw [O0];rw [show ks[j]? =some ((MT.mk m l ps t ks).kids[j])from NV hj];exact(MT.cov_iff r _).2 ⟨q,a,h2⟩
theorem d_t {α β :Type} (f: α -> β) (g: β ->Bool):∀l:List α,(l.map f).countP g=l.countP (fun x=>g (f x))
 | []=>rfl
 | x::l=>by rw [List.map_cons,List.countP_cons,List.countP_cons,d_t f g l]
mutual
theorem g_m:∀T:MT,(xQ T.bare).countP T.cov=f_5 T
 | .mk m l ps t ks=>by
   rw [f_5];cases m with
   | true=>
     rw [if_pos rfl, <- a_X _ []];refine List.countP_eq_length.2 fun x _=>(MT.cov_iff x _).2 ⟨[],List.nil_prefix,rfl⟩
   | false=>
     rw [if_neg P6]
     show (jZ (fun _=>true) (.mk l ps t (MT.bares ks)) []).countP _=_
     rw [jZ,MT.bares_map,List.countP_append,f_8 (MT.mk false l ps t ks) rfl ks 0 (fun j=>by simp [MT.kids])];have:([([]:List Int)]).countP (MT.mk false l ps t ks).cov=0:=List.countP_eq_zero.2 fun x hx=>by
      rw [O9 hx,MT.cov];simp
     simp [this]
theorem f_8 (T:MT) (hm:T.mark=false):∀ (ks:List MT) (i:Nat),(∀j,ks[j]? =T.kids[i+j]?) ->(kV (fun _=>true) (ks.map MT.bare) i []).countP T.cov=f_6 ks
 | [],i,h=>by rw [List.map_nil,kV];rfl
 | k::ks,i,h=>by
   rw [List.map_cons,kV,List.countP_append,f_6,f_8 T hm ks (i+1) (fun j=>by have:=h (j+1);rw [List.getElem?_cons_succ]at this;rw [this];congr 1;omega)]
   congr 1
   have hk:T.kids[i]? =some k:=by have:=h 0;simpa using this.symm
   rw [show ([]:List Int) ++ [(i:Int)]= [(i:Int)] ++ []by simp,f_1,d_t, <- g_m k];refine List.countP_congr fun x _=> ?_
   obtain⟨m,l,ps,t,kk⟩:=T
   show MT.cov _ ((i:Int)::x)=true ↔ _
   simp only [MT.mark]at hm;subst hm;rw [MT.cov,f_7,O0];simp only [MT.kids]at hk;rw [hk];simp
end
theorem l_t {n:aX} (hw:n.wt <= 1048576) (L:List (List Int)):M3 n L=f_5 (MT.on L n):=by
 rw [g_V hw, <- g_m,mZ];refine List.countP_congr fun x _=> ?_
 rw [cov_iff,MT.cov_iff];constructor
 . rintro ⟨q,hq,hx⟩
   rw [List.mem_filter]at hq;exact⟨q,hx,(l_r L n q).2 hq⟩
 rintro⟨q,hx,h⟩;exact⟨q,List.mem_filter.2 ((l_r L n q).1 h),hx⟩
mutual
theorem i_U:∀T:MT,(∀q,T.mk? q=false) ->f_5 T=0
 | .mk m l ps t ks,h=>by
   rw [f_5];have hm:m=false:=h []
   subst hm;rw [if_neg P6];exact g_n ks (k_A h)
theorem g_n:∀ks:List MT,(∀x∈ks,∀q,x.mk? q=false) ->f_6 ks=0
 | [],h=>rfl
 | k::ks,h=>by
   rw [f_6,i_U k (h k P6),g_n ks (fun x hx=>h x t_u)]
end
theorem a_J {L:List (List Int)} {n:aX} (hs:pK L) (he:∀q∈L,dX n q=true):L.length <= n.wt/\∀q∈L,q.length <= n.wt:=by
 have e:L=oY ((xQ n).filter (fun q=>decide (q∈L))):=sK hs (j8 _) fun q=>by
  rw [m4,List.mem_filter];exact⟨fun h=>⟨EY (he q h),by simpa using h⟩,fun h=>by simpa using h.2⟩
 have h1:L.length <= (xQ n).length:=by
  rw [e];exact aJ (a_g _) (List.length_filter_le _ _)
 refine⟨aJ h1 (uK _ n []),fun q hq=> ?_⟩;have:=d_r _ n [] q (EY (he q hq))
 simpa using this
theorem k_C (n:aX) (L:List (List Int)) (o:C9):pK (IY n L o)/\∀q∈IY n L o,dX n q=true:=
 ⟨j8 _,fun q hq=>(List.mem_filter.1 (m4.1 hq)).2⟩
theorem k_D {n X:aX} {o:fZ} (hk:IJ o.kind) (hw:n.wt <= 100000000) (h:nZ n o.full=(X,0)):o.path≠ []/\(o.kind=5 ->o.dest≠ []):=by
 obtain⟨-, -, -, -,⟨h1, -,h2⟩ | ⟨h1,R,k,h2, -, -, -,h5⟩⟩:=EK hk hw h
 . refine ⟨fun e=> ?_,fun e=>by omega⟩
   unfold K4 at h2;rw [if_pos e]at h2;simp at h2
 exact⟨(c_F h2).1,h5⟩
end Go.Proofs.YtmadpclcmjahoaaGreatDoor
