/- Parts of the proof: 27. -/
import Derived.Test.YtmadpclcmjahoaaGreatDoorFN1
import Derived.Test.YtmadpclcmjahoaaGreatDoorFN26
import Derived.Test.YtmadpclcmjahoaaGreatDoorFN17
import Derived.Test.YtmadpclcmjahoaaGreatDoorFN6
import Derived.Test.YtmadpclcmjahoaaGreatDoorFN2
set_option linter.unusedVariables false
set_option linter.unusedSimpArgs false
set_option maxHeartbeats 8000000
set_option maxRecDepth 100000
namespace Go.Proofs.YtmadpclcmjahoaaGreatDoor
open Go.RowKit Go.Redl
def iZ (ks:List MT) (j:Nat) (x:MT) (t:Nat):List MT:=ks.take j ++ x.setKids (x.kids.drop t)::(x.kids.take t ++ ks.drop (j+1))
theorem a_b (ks:List MT) (j:Nat) (x:MT) (t:Nat):(iZ ks j x t).map MT.bare=mY (ks.map MT.bare) j x.bare t:=by
 unfold iZ mY
 rw [List.map_append,List.map_cons,List.map_append,List.map_take,List.map_drop,List.map_take,MT.bare_setKids,MT.kids_bare,List.map_drop]
theorem L7 {ks:List MT} {j:Nat} {x:MT} {t:Nat} (hj:j < ks.length) (ht:t <= x.kids.length):(iZ ks j x t).length=ks.length+t:=by
 unfold iZ
 simp [Nat.min_eq_left (Nat.le_of_lt hj),Nat.min_eq_left ht];omega
theorem l_7 {ks:List MT} {j:Nat} {x:MT} {t:Nat} (hj:j < ks.length):(iZ ks j x t)[j]? =some (x.setKids (x.kids.drop t)):=by
 unfold iZ
 rw [List.getElem?_append_right (by simp;omega)]
 simp [Nat.min_eq_left (Nat.le_of_lt hj)]
theorem h_i {ks:List MT} {j:Nat} {x:MT} {t:Nat} (hj:j < ks.length) (ht:t < x.kids.length):
 I5 ((iZ ks j x t).set j (x.setKids (x.kids.drop (t+1)))) (j+1+t) x.kids[t]=iZ ks j x (t+1):=by
 have e:(iZ ks j x t).set j (x.setKids (x.kids.drop (t+1)))=ks.take j ++ x.setKids (x.kids.drop (t+1))::(x.kids.take t ++ ks.drop (j+1)):=by
  unfold iZ
  rw [List.set_append_right _ _ (by simp;omega)]
  simp [Nat.min_eq_left (Nat.le_of_lt hj)]
 rw [e]
 unfold I5 iZ
 have hl:(ks.take j ++ x.setKids (x.kids.drop (t+1))::x.kids.take t).length=j+1+t:=by simp;omega
 rw [show ks.take j ++ x.setKids (x.kids.drop (t+1))::(x.kids.take t ++ ks.drop (j+1))=(ks.take j ++ x.setKids (x.kids.drop (t+1))::x.kids.take t) ++ ks.drop (j+1)by simp,List.take_left' hl,List.drop_left' hl,List.take_succ_eq_append_getElem ht]
 simp only [List.append_assoc,List.cons_append,List.nil_append]
theorem h_j (ks:List MT) (j:Nat) (x:MT) (t:Nat):iZ ks j x.markIt t=ks.take j ++ (x.setKids (x.kids.drop t)).markIt::(x.kids.take t ++ ks.drop (j+1)):=by
 unfold iZ
 rw [MT.kids_markIt,MT.markIt_setKids]
theorem c_W {ks:List MT} {j:Nat} {x:MT} {t:Nat} (h:∀y∈ks,y.Ok) (hx:x.Ok):∀y∈iZ ks j x t,y.Ok:=by
 unfold iZ
 exact G2 (fun y hy=>h y (List.mem_of_mem_take hy)) (b_O (hx.setKids fun y hy=>hx.kids y (List.mem_of_mem_drop hy)) (G2 (fun y hy=>hx.kids y (List.mem_of_mem_take hy)) fun y hy=>h y (List.mem_of_mem_drop hy)))
structure D3 (k kk:MT):Prop where
 bare:kk.bare=k.bare
 kids:kk.kids=k.kids
 mark:kk.markIt=k.markIt
 ok:kk.Ok
theorem D3.refl {k:MT} (h:k.Ok):D3 k k:=⟨rfl,rfl,rfl,h⟩
theorem D3.markIt {k kk:MT} (h:D3 k kk) (hl:aZ k.bare=false):D3 k kk.markIt:=⟨(MT.bare_markIt _).trans h.bare,(MT.kids_markIt _).trans h.kids,(MT.markIt_markIt _).trans h.mark,h.ok.markIt (by rw [h.bare];exact hl)⟩
section
variable {T k : MT} {p : List Int} (hE : eQ T.bare = 0) (hr : aZ T.bare = false) (hok : T.Ok) (ha : T.at_ p = some k) (hl : aZ k.bare = false)
include hok ha hl
theorem h_k {j t:Nat} {x kk xx:MT} {L:List (List Int)} (hK:D3 k kk) (hj:k.kids[j]? =some x) (hX:D3 x xx) (ht:t < x.kids.length) (hxl:aZ x.bare=false) (hw:(T.put p (kk.setKids (iZ k.kids j xx t))).bare.wt <= 1000000) (hL:D7 L (T.put p (kk.setKids (iZ k.kids j xx t)))):
 D7 (E6 (T.put p (kk.markIt.setKids (iZ k.kids j xx.markIt (t+1)))).bare L (j7.full ⟨5,p ++ [(j:Int),0],p ++ [(j:Int)+(1+(t:Int))],0,bZ, []⟩)) (T.put p (kk.markIt.setKids (iZ k.kids j xx.markIt (t+1)))):=by
 have hk:=MT.Ok.at_ p hok ha
 have hjl:j < k.kids.length:=(List.getElem?_eq_some_iff.1 hj).1
 have hxt:t < xx.kids.length:=by rw [hX.kids];exact ht
 have hput:=MT.at_put p T k (kk.setKids (iZ k.kids j xx t)) ha
 have hTO:(T.put p (kk.setKids (iZ k.kids j xx t))).Ok:=MT.Ok.put p hok (hK.ok.setKids (c_W hk.kids hX.ok))
 obtain⟨hkw,hkl,hs⟩:=D2 hw hput
 rw [MT.kids_setKids,L7 hjl (by omega)]at hkl
 have hp:bQ p=true:=K3 p _ _ (by rw [MT.at_bare,hput];rfl) (show (T.put p (kk.setKids (iZ k.kids j xx t))).bare.wt <= 1048576 by omega)
 have ed:(j:Int)+(1+(t:Int))=((j+1+t:Nat):Int):=by omega
 have hKj:j < (kk.setKids (iZ k.kids j xx t)).kids.length:=by rw [MT.kids_setKids,L7 hjl (by omega)];omega
 have hg:=i_P (k:=kk.setKids (iZ k.kids j xx t)) (x:=xx.setKids (xx.kids.drop t)) (y:=xx.kids[t]) (ys:=xx.kids.drop (t+1)) (j:=j) (d:=j+1+t) hKj (by omega) (by omega)
  (by
    have h:=l_7 (x:=xx) (t:=t) hjl
    simp only [MT.kids_setKids]
    rw [List.getElem?_eq_getElem (by rw [L7 hjl (by omega)];omega)]at h
    exact Option.some.inj h)
  (by rw [MT.kids_setKids];exact List.drop_eq_getElem_cons hxt) (by omega) (by rw [MT.kids_setKids,L7 hjl (by omega)];omega) hs
 rw [MT.kids_setKids,MT.setKids_setKids,MT.setKids_setKids,h_i hjl hxt]at hg
 have hkid:∀q,(kk.setKids (iZ k.kids j xx.markIt (t+1))).mk? q=true ↔ (kk.setKids (iZ k.kids j xx (t+1))).mk? q=true∨q= [(j:Int)]:=fun q=>by
  have h:=l_5 (k:=kk) (x:=xx.setKids (xx.kids.drop (t+1))) (a:=k.kids.take j) (b:=xx.kids.take (t+1) ++ k.kids.drop (j+1)) q
  rw [show (k.kids.take j).length=j by simp;omega, <- h_j]at h
  exact h
 have hfin:(kk.markIt.setKids (iZ k.kids j xx.markIt (t+1))).Ok:=(hK.markIt hl).ok.setKids (c_W hk.kids (hX.markIt hxl).ok)
 have h:=CZ (o:=j7.full ⟨5, [(j:Int),0], [((j+1+t:Nat):Int)],0,bZ, []⟩) (ms:= [[], [(j:Int)]]) (k'':=kk.markIt.setKids (iZ k.kids j xx.markIt (t+1))) hL hput hTO (by omega) (by rw [G1,gV (show j <= 1048576 by omega)];rfl) (by rw [nJ,gV (show j+1+t <= 1048576 by omega)];rfl) e_s (by simp) (by simp) (by simp) hg hfin
  (fun b h=>by
    rw [<- MT.markIt_setKids,MT.mk_markIt,hkid]at h
    rcases h with(h | h) | h
    . exact .inl h
    . exact .inr (by simp [h])
    . exact .inr (by simp [h]))
  (fun b h=>by rw [<- MT.markIt_setKids,MT.mk_markIt,hkid];exact .inl (.inl h))
  (fun b hb _=>by
    rw [<- MT.markIt_setKids,MT.mk_markIt,hkid]
    rcases List.mem_cons.1 hb with rfl | hb
    . exact .inr rfl
    . exact .inl (.inr (List.mem_singleton.1 hb)))
  (fun q _=>h_1 hp (by omega) (by omega) (by omega) q)
 rw [MT.put_put p T k _ _ ha]at h
 rw [ed]
 exact h
include hE hr
theorem c_X {j:Nat} {x:MT} (hj:k.kids[j]? =some x) (hxl:0 < x.kids.length ->aZ x.bare=false):∀ (m t:Nat) (kk xx:MT) (L:List (List Int)),t+m=x.kids.length ->D3 k kk ->D3 x xx ->(T.put p (kk.setKids (iZ k.kids j xx t))).bare.wt <= 1000000 ->D7 L (T.put p (kk.setKids (iZ k.kids j xx t))) ->
 ∃kk' xx',D3 k kk'/\D3 x xx'/\(T.put p (kk'.setKids (iZ k.kids j xx' x.kids.length))).bare.wt <= 1000000/\D7 (mV (T.put p (kk.setKids (iZ k.kids j xx t))).bare L ((List.range' t m).map fun i:Nat=>j7.full ⟨5,p ++ [(j:Int),0],p ++ [(j:Int)+(1+(i:Int))],0,bZ, []⟩)) (T.put p (kk'.setKids (iZ k.kids j xx' x.kids.length)))
 | 0,t,kk,xx,L,h,hK,hX,hw,hL=>by
   obtain rfl:t=x.kids.length:=by omega
   exact⟨kk,xx,hK,hX,hw,hL⟩
 | m+1,t,kk,xx,L,h,hK,hX,hw,hL=>by
   have hat:kK T.bare p=some k.bare:=by rw [MT.at_bare,ha];rfl
   have hjl:j < k.kids.length:=(List.getElem?_eq_some_iff.1 hj).1
   have hjb:j < (aQ k.bare).length:=by rw [MT.kids_bare,List.length_map];exact hjl
   have hxb:(aQ k.bare)[j]=x.bare:=by
    have h1:=(List.getElem?_eq_some_iff.1 hj).2
    simp only [MT.kids_bare,List.getElem_map]
    rw [h1]
   have hxl':=hxl (by omega)
   have happ:=f_6 hE hr hat hl (j:=j) (t:=t) hjb (by rw [hxb,MT.kids_bare,List.length_map];omega)
   have hb1:∀ (k0 x0:MT) (t:Nat),D3 k k0 ->D3 x x0 ->(T.put p (k0.setKids (iZ k.kids j x0 t))).bare=gY T.bare p (setKids k.bare (mY (aQ k.bare) j x.bare t)):=fun k0 x0 t h1 h2=>by
    rw [A4 ha k0 h1.bare,a_b,MT.kids_bare,h2.bare]
   rw [hxb, <- hb1 kk xx t hK hX, <- hb1 kk.markIt xx.markIt (t+1) (hK.markIt hl) (hX.markIt hxl')]at happ
   have hw2:=FZ (o:=⟨5,p ++ [(j:Int),0],p ++ [(j:Int)+(1+(t:Int))],0,bZ, []⟩) (.inr (.inr (.inr rfl))) (by omega) happ
   simp only [show ¬ ((5:Int)=1)by decide,if_false,Nat.add_zero]at hw2
   have h1:=h_k hok ha hl hK hj hX (by omega) hxl' hw hL
   obtain⟨kk',xx',g1,g2,g3,g4⟩:=c_X hj hxl m (t+1) kk.markIt xx.markIt _ (by omega) (hK.markIt hl) (hX.markIt hxl') (by omega) h1
   refine⟨kk',xx',g1,g2,g3, ?_⟩
   rw [List.range'_succ,List.map_cons,lJ happ]
   exact g4
end
def kJ (ks:List MT) (j:Nat) (x:MT) (t:Nat):List MT:=ks.take j ++ x.setKids ((ks.drop j).take t)::ks.drop (j+t)
theorem c_Y (ks:List MT) (j:Nat) (x:MT) (t:Nat):(kJ ks j x t).map MT.bare=kZ (ks.map MT.bare) j x.bare t:=by
 unfold kJ kZ
 rw [List.map_append,List.map_cons,List.map_take,List.map_drop,MT.bare_setKids,List.map_take,List.map_drop]
theorem h_l {ks:List MT} {j:Nat} {x:MT} (hx:x.kids= []):kJ ks j x 0=I5 ks j x:=by
 unfold kJ I5
 rw [List.take_zero, <- hx,MT.setKids_self,Nat.add_zero]
theorem j_7 {ks:List MT} {j:Nat} {x:MT} {t:Nat} (hj:j+t <= ks.length):(kJ ks j x t).length=ks.length - t+1:=by
 unfold kJ
 simp;omega
theorem f_V {ks:List MT} {j:Nat} {x:MT} {t:Nat} (hj:j <= ks.length):(kJ ks j x t)[j]? =some (x.setKids ((ks.drop j).take t)):=by
 unfold kJ
 rw [List.getElem?_append_right (by simp;omega)]
 simp [Nat.min_eq_left hj]
theorem h_m {ks:List MT} {j:Nat} {x:MT} {t:Nat} (hj:j+t < ks.length):(kJ ks j x t)[j+1]? =some ks[j+t]:=by
 unfold kJ
 rw [List.getElem?_append_right (by simp;omega)]
 simp [Nat.min_eq_left (show j <= ks.length by omega),show j+1 - j=1 by omega,List.getElem?_eq_getElem hj]
theorem h_n {ks:List MT} {j:Nat} {x:MT} {t:Nat} (hj:j+t < ks.length):
 ((kJ ks j x t).eraseIdx (j+1)).set j (x.setKids ((ks.drop j).take t ++ [ks[j+t]]))=kJ ks j x (t+1):=by
 have hl:(ks.take j).length=j:=by simp;omega
 unfold kJ
 rw [List.eraseIdx_append_of_length_le (by omega),hl,show j+1 - j=1 by omega,List.eraseIdx_cons_succ,List.set_append_right _ _ (by omega),hl,Nat.sub_self,List.set_cons_zero,List.eraseIdx_zero,List.tail_drop]
 have e:(ks.drop j).take t ++ [ks[j+t]]=(ks.drop j).take (t+1):=by
  have hd:t < (ks.drop j).length:=by simp;omega
  rw [List.take_succ_eq_append_getElem hd,List.getElem_drop]
 rw [e,Nat.add_assoc]
theorem f_W {ks:List MT} {j:Nat} {x:MT} {t:Nat} (h:∀y∈ks,y.Ok) (hx:x.Ok):∀y∈kJ ks j x t,y.Ok:=by
 unfold kJ
 exact G2 (fun y hy=>h y (List.mem_of_mem_take hy)) (b_O (hx.setKids fun y hy=>h y (List.mem_of_mem_drop (List.mem_of_mem_take hy))) fun y hy=>h y (List.mem_of_mem_drop hy))
section
variable {T k : MT} {p : List Int} (hE : eQ T.bare = 0) (hr : aZ T.bare = false) (hok : T.Ok) (ha : T.at_ p = some k) (hl : aZ k.bare = false)
include hok ha hl
theorem h_o {j t:Nat} {x:MT} {L:List (List Int)} (hx:x.Ok) (hxm:x.mark=true) (ht:j+t < k.kids.length) (hw:(T.put p (k.markIt.setKids (kJ k.kids j x t))).bare.wt <= 1000000) (hL:D7 L (T.put p (k.markIt.setKids (kJ k.kids j x t)))):
 D7 (E6 (T.put p (k.markIt.setKids (kJ k.kids j x (t+1)))).bare L (j7.full ⟨5,p ++ [(j:Int)+1],p ++ [(j:Int),(t:Int)],0,bZ, []⟩)) (T.put p (k.markIt.setKids (kJ k.kids j x (t+1)))):=by
 have hk:=MT.Ok.at_ p hok ha
 have hput:=MT.at_put p T k (k.markIt.setKids (kJ k.kids j x t)) ha
 have hTO:(T.put p (k.markIt.setKids (kJ k.kids j x t))).Ok:=MT.Ok.put p hok ((hk.markIt hl).setKids (f_W hk.kids hx))
 obtain⟨hkw,hkl,hs⟩:=D2 hw hput
 have hlen:(k.markIt.setKids (kJ k.kids j x t)).kids.length=k.kids.length - t+1:=by rw [MT.kids_setKids,j_7 (by omega)]
 have htw:k.kids.length <= 1000000:=by
  have h1:=K8 (x.setKids ((k.kids.drop j).take t)).bare
  have h2:=fX (aQ (x.setKids ((k.kids.drop j).take t)).bare)
  have h3:=K8 (k.markIt.setKids (kJ k.kids j x t)).bare
  rw [MT.kids_bare]at h3
  have h4:(dX ((kJ k.kids j x t).map MT.bare))=dX ((k.kids.take j).map MT.bare)+((x.setKids ((k.kids.drop j).take t)).bare.wt+dX ((k.kids.drop (j+t)).map MT.bare)):=by
   unfold kJ
   rw [List.map_append,List.map_cons,sK,dX]
  have h5:=fX ((k.kids.take j).map MT.bare)
  have h6:=fX ((k.kids.drop (j+t)).map MT.bare)
  rw [MT.kids_bare,MT.kids_setKids]at h1 h2
  rw [List.length_map,List.length_take,List.length_drop]at h2
  rw [List.length_map,List.length_take]at h5
  rw [List.length_map,List.length_drop]at h6
  rw [Nat.min_eq_left (by omega)]at h2 h5
  rw [MT.kids_setKids,h4]at h3
  omega
 have hp:bQ p=true:=K3 p _ _ (by rw [MT.at_bare,hput];rfl) (show (T.put p (k.markIt.setKids (kJ k.kids j x t))).bare.wt <= 1048576 by omega)
 have hj1:j+1 < (k.markIt.setKids (kJ k.kids j x t)).kids.length:=by omega
 have hg:=i_O (k:=k.markIt.setKids (kJ k.kids j x t)) (x:=x.setKids ((k.kids.drop j).take t)) (j:=j) (t:=t) hj1 (by omega) (by omega)
  (by
    have h:=f_V (x:=x) (t:=t) (show j <= k.kids.length by omega)
    simp only [MT.kids_setKids]
    rw [List.getElem?_eq_getElem (by rw [MT.kids_setKids]at hlen;omega)]at h
    exact Option.some.inj h)
  (by rw [MT.kids_setKids];simp;omega) hs
 have hnx:(k.markIt.setKids (kJ k.kids j x t)).kids[j+1]=k.kids[j+t]:=by
  have h:=h_m (x:=x) ht
  simp only [MT.kids_setKids]
  rw [List.getElem?_eq_getElem (by rw [MT.kids_setKids]at hlen;omega)]at h
  exact Option.some.inj h
 rw [hnx]at hg
 simp only [MT.kids_setKids,MT.setKids_setKids]at hg
 rw [h_n ht]at hg
 have hfin:(k.markIt.setKids (kJ k.kids j x (t+1))).Ok:=(hk.markIt hl).setKids (f_W hk.kids hx)
 have h:=CZ (o:=j7.full ⟨5, [(j:Int)+1], [(j:Int),(t:Int)],0,bZ, []⟩) (ms:= [[], [(j:Int)]]) (k'':=k.markIt.setKids (kJ k.kids j x (t+1))) hL hput hTO (by omega) (by rw [show ((j:Int)+1)=((j+1:Nat):Int)by omega,nJ,gV (show j+1 <= 1048576 by omega)];rfl) (by rw [G1,gV (show j <= 1048576 by omega),gV (show t <= 1048576 by omega)];rfl) e_s (by simp) (by simp) (by simp) hg hfin
  (fun b h=> .inl h) (fun b h=>h)
  (fun b hb _=>by
    rcases List.mem_cons.1 hb with rfl | hb
    . rw [MT.mk_nil,MT.mark_setKids,MT.mark_markIt]
    . obtain rfl:=List.mem_singleton.1 hb
      rw [fZ,MT.kids_setKids,f_V (by omega)]
      show MT.mk? (x.setKids _) []=true
      rw [MT.mk_nil,MT.mark_setKids,hxm])
  (fun q _=>h_0 hp (by omega) (by omega) q)
 rw [MT.put_put p T k _ _ ha]at h
 exact h
include hE hr
theorem c_Z {j:Nat} {x:MT} (hx:x.Ok) (hxm:x.mark=true) (hxE:eQ x.bare=0) (hxl:aZ x.bare=false):∀ (m t:Nat) (L:List (List Int)),j+t+m <= k.kids.length ->(T.put p (k.markIt.setKids (kJ k.kids j x t))).bare.wt <= 1000000 ->D7 L (T.put p (k.markIt.setKids (kJ k.kids j x t))) ->
 D7 (mV (T.put p (k.markIt.setKids (kJ k.kids j x t))).bare L ((List.range' t m).map fun i:Nat=>j7.full ⟨5,p ++ [(j:Int)+1],p ++ [(j:Int),(i:Int)],0,bZ, []⟩)) (T.put p (k.markIt.setKids (kJ k.kids j x (t+m))))
 | 0,t,L,h,hw,hL=>hL
 | m+1,t,L,h,hw,hL=>by
   have hat:kK T.bare p=some k.bare:=by rw [MT.at_bare,ha];rfl
   have happ:=f_8 hE hr hat hl (j:=j) (t:=t) hxE hxl (by rw [MT.kids_bare,List.length_map];omega)
   have hb1:∀ (t:Nat),(T.put p (k.markIt.setKids (kJ k.kids j x t))).bare=gY T.bare p (setKids k.bare (kZ (aQ k.bare) j x.bare t)):=fun t=>by
    rw [A4 ha k.markIt (MT.bare_markIt k),c_Y,MT.kids_bare]
   rw [<- hb1 t, <- hb1 (t+1)]at happ
   have hw2:=FZ (o:=⟨5,p ++ [(j:Int)+1],p ++ [(j:Int),(t:Int)],0,bZ, []⟩) (.inr (.inr (.inr rfl))) (by omega) happ
   simp only [show ¬ ((5:Int)=1)by decide,if_false,Nat.add_zero]at hw2
   have h1:=h_o hok ha hl hx hxm (by omega) hw hL
   rw [List.range'_succ,List.map_cons,lJ happ]
   have h2:=c_Z hx hxm hxE hxl m (t+1) _ (by omega) (by omega) h1
   rwa [show t+1+m=t+(m+1)by omega]at h2
end
theorem a_K {r:bJ} {ks:List MT} {f:qJ} (h:f.1=1∨f.1=5):a_4 r ks f=ks.eraseIdx f.2.1.toNat:=by
 unfold a_4;rw [if_pos h]
theorem f_X {r:bJ} {ks:List MT} {f:qJ} (h:f.1=2):a_4 r ks f=ks.take f.2.1.toNat ++ ((rJ ks f.2.1.toNat).kids ++ ks.drop (f.2.1.toNat+1)):=by
 unfold a_4;rw [if_neg (by omega),if_pos h]
theorem d_0 {r:bJ} {ks:List MT} {f:qJ} (h:f.1=3):a_4 r ks f=kJ ks f.2.1.toNat (AY true (fQ (eY r (rJ ks f.2.1.toNat).bare).2)) f.2.2.toNat:=by
 unfold a_4 kJ;rw [if_neg (by omega),if_neg (by omega),if_pos h]
theorem d_S {r:bJ} {ks:List MT} {f:qJ} (h:f.1=4):a_4 r ks f=(ks.eraseIdx f.2.1.toNat).set (f.2.1.toNat - 1) (G0 (rJ ks (f.2.1.toNat - 1)) (rJ ks f.2.1.toNat)):=by
 unfold a_4;rw [if_neg (by omega),if_neg (by omega),if_neg (by omega),if_pos h]
theorem f_Y {r:bJ} {ks:List MT} {f:qJ} (h:f.1=6):a_4 r ks f= [if r.fill=1 then AY false (.mk true [] [] []) else AY true (fQ r.fillT)]:=by
 unfold a_4;rw [if_neg (by omega),if_neg (by omega),if_neg (by omega),if_neg (by omega)]
theorem l_8 {s:b8} {T k:MT} {p:List Int} {L:List (List Int)} (hs:uX s=0) (hE:eQ T.bare=0) (hr:aZ T.bare=false) (hw:T.bare.wt <= 900000) (hL:D7 L T) (hok:T.Ok) (ha:T.at_ p=some k) (hf:(g9 s k.bare).1≠0):
 D7 (mV T.bare L ((lX (bV s (dZ k.bare)) (aQ k.bare) p (g9 s k.bare)).map j7.full)) (T.put p (k.markIt.fix s)):=by
 have hat:kK T.bare p=some k.bare:=by rw [MT.at_bare,ha];rfl
 have hl:=i_K hf
 have hkE:=CQ p T.bare k.bare hE hat
 have hKE:=rZ hkE
 have hwn:=g_U hs hf
 have hk:=MT.Ok.at_ p hok ha
 have hF:=zY (zX hs _ (L3 s (dZ k.bare))).1
 have hfx:k.markIt.fix s=k.markIt.setKids (a_4 (bV s (dZ k.bare)) k.kids (g9 s k.bare)):=by
  unfold MT.fix
  rw [MT.bare_markIt,MT.kids_markIt]
 rw [hfx]
 rcases o8 s k.bare with h | ⟨c,j, -,h1,h6,hj,he,hlt,h4,h66⟩
 . rw [h]at hf;exact absurd rfl hf
 rw [he]at hwn⊢
 clear hfx he hf
 generalize bV s (dZ k.bare)=r at hj hwn hF⊢
 unfold f_F at hwn
 simp only [Int.toNat_natCast]at hwn
 obtain rfl | rfl | rfl | rfl | rfl | rfl:c=1∨c=2∨c=3∨c=4∨c=5∨c=6:=by omega
 . have hjl:=hlt (by omega)
   rw [FX (.inl rfl)]
   simp only [Int.toNat_natCast,List.map_cons,List.map_nil]
   rw [kid_at hjl,a_K (.inl rfl)]
   simp only [Int.toNat_natCast]
   exact c_U hE hr (by omega) hL hok ha hl hjl
 . have hjl:=hlt (by omega)
   have hjk:j < k.kids.length:=by rw [MT.kids_bare,List.length_map]at hjl;exact hjl
   have hjx:k.kids[j]? =some k.kids[j]:=List.getElem?_eq_getElem hjk
   have hxb:(aQ k.bare)[j]=k.kids[j].bare:=by simp only [MT.kids_bare,List.getElem_map]
   have hkm:rJ k.kids j=k.kids[j]:=by simp [rJ,List.getD,hjx]
   rw [c_k rfl]
   simp only [Int.toNat_natCast]
   rw [kid_at hjl,hxb,f_X rfl]
   simp only [Int.toNat_natCast]
   rw [hkm]
   have hxE:eQ k.kids[j].bare=0:=by rw [<- hxb];exact hKE _ (List.getElem_mem hjl)
   have hxO:=hk.kids _ (List.getElem_mem hjk)
   generalize k.kids[j]=x at hjx hxE hxO hxb⊢
   have hxl:0 < x.kids.length ->aZ x.bare=false:=fun h=>by
    cases hlx:aZ x.bare with
    | false=>rfl
    | true=>
      have h2:=FQ hxE hlx
      rw [MT.kids_bare]at h2
      rw [List.map_eq_nil_iff.1 h2]at h
      simp at h
   have h0:k.setKids (iZ k.kids j x 0)=k:=by
    unfold iZ
    rw [List.drop_zero,MT.setKids_self,List.take_zero,List.nil_append]
    have h:=List.drop_eq_getElem_cons hjk
    rw [(List.getElem?_eq_some_iff.1 hjx).2]at h
    rw [<- h,List.take_append_drop,MT.setKids_self]
   have hT0:T.put p (k.setKids (iZ k.kids j x 0))=T:=by rw [h0];exact MT.put_same p T k ha
   obtain⟨kk,xx,g1,g2,g3,g4⟩:=c_X hE hr hok ha hl hjx hxl x.kids.length 0 k x L (by omega) (D3.refl hk) (D3.refl hxO) (by rw [hT0];omega) (by rw [hT0];exact hL)
   rw [hT0]at g4
   have hpl:=c_g hE hr hat hl hjl (aQ (aQ k.bare)[j]).length 0 (by omega)
   rw [c_e hjl,setKids_self,a_T p T.bare k.bare hat,hxb,show (aQ x.bare).length=x.kids.length by rw [MT.kids_bare,List.length_map]]at hpl
   rw [show (aQ x.bare).length=x.kids.length by rw [MT.kids_bare,List.length_map],List.map_append,List.map_map,List.range_eq_range']
   have hbe:gY T.bare p (setKids k.bare (mY (aQ k.bare) j x.bare x.kids.length))=(T.put p (kk.setKids (iZ k.kids j xx x.kids.length))).bare:=by
    rw [A4 ha kk g1.bare,a_b,MT.kids_bare,g2.bare]
   rw [hbe]at hpl
   rw [K5 _ _ _ _ _ (show nV T.bare (List.map (j7.full ∘ fun i:Nat=>(⟨5,p ++ [(j:Int),0],p ++ [(j:Int)+(1+(i:Int))],0,bZ, []⟩:j7)) (List.range' 0 x.kids.length))=_ from hpl)]
   have hput:=MT.at_put p T k (kk.setKids (iZ k.kids j xx x.kids.length)) ha
   have hE2:eQ (T.put p (kk.setKids (iZ k.kids j xx x.kids.length))).bare=0:=by
    rw [<- hbe]
    exact CV hE hat hl (a_V hjl hxb.symm hKE)
   have hr2:aZ (T.put p (kk.setKids (iZ k.kids j xx x.kids.length))).bare=false:=by rw [<- hbe];exact(KY hat).trans hr
   have hO2:(T.put p (kk.setKids (iZ k.kids j xx x.kids.length))).Ok:=MT.Ok.put p hok (g1.ok.setKids (c_W hk.kids g2.ok))
   have hkb2:aQ (kk.setKids (iZ k.kids j xx x.kids.length)).bare=mY (aQ k.bare) j x.bare x.kids.length:=by
    rw [MT.kids_bare,MT.kids_setKids,a_b,MT.kids_bare,g2.bare]
   have hjl2:j < (aQ (kk.setKids (iZ k.kids j xx x.kids.length)).bare).length:=by
    rw [hkb2,KZ hjl (by rw [MT.kids_bare,List.length_map];exact a8)];omega
   have hl2:aZ (kk.setKids (iZ k.kids j xx x.kids.length)).bare=false:=by
    rw [MT.bare_setKids,nQ,g1.bare];exact hl
   have h2:=c_U hE2 hr2 g3 g4 hO2 hput hl2 hjl2
   have hnk:(aQ (kk.setKids (iZ k.kids j xx x.kids.length)).bare)[j]=G6 x.bare:=by
    have h:=c_f (x:=x.bare) (t:=x.kids.length) hjl
    rw [<- hkb2,List.getElem?_eq_getElem hjl2]at h
    rw [Option.some.inj h,List.drop_eq_nil_of_le (by rw [MT.kids_bare,List.length_map];exact a8)]
    cases x;rfl
   rw [hnk,MT.put_put p T k _ _ ha,MT.markIt_setKids,MT.setKids_setKids,MT.kids_setKids,g1.mark]at h2
   rw [show (iZ k.kids j xx x.kids.length).eraseIdx j=k.kids.take j ++ (x.kids ++ k.kids.drop (j+1))by
    unfold iZ
    rw [List.eraseIdx_append_of_length_le (by simp;omega),g2.kids]
    simp [Nat.min_eq_left (Nat.le_of_lt hjk)]]at h2
   exact h2
 . have hjl:=hlt (by omega)
   have hjk:j < k.kids.length:=by rw [MT.kids_bare,List.length_map]at hjl;exact hjl
   have hm:=a_Z r (aQ k.bare) j hjl (by exact_mod_cast hj)
   have h4a:=(c_E hjl (by exact_mod_cast hj)).1
   have hnm:=c_S (c_A (c_z hF _) h4a)
   have hew:=e_F (eY r (aQ k.bare)[j]).2
   have hxE:=hwn.1 rfl
   rw [MZ rfl]
   simp only [Int.toNat_natCast]
   have hm':i9 r (aQ k.bare) ((3:Nat):Int)=i9 r (aQ k.bare) 3:=rfl
   rw [hm']
   have hkm:(rJ k.kids j).bare=cX (aQ k.bare) j:=by rw [k_C,MT.kids_bare]
   rw [d_0 rfl]
   simp only [Int.toNat_natCast]
   rw [hkm]
   generalize i9 r (aQ k.bare) 3=m at hm⊢
   rw [<- kid_at hjl]at hew
   have hxl:aZ (fQ (eY r (cX (aQ k.bare) j)).2)=false:=rfl
   have hxk:aQ (fQ (eY r (cX (aQ k.bare) j)).2)= []:=rfl
   rw [kid_at hjl]at hew hxE hxl hxk⊢
   have hxw:(fQ (eY r (aQ k.bare)[j]).2).wt <= 100:=by omega
   generalize fQ (eY r (aQ k.bare)[j]).2=x at hxE hxl hxk hxw⊢
   have hxb:(AY false x).bare=x:=AZ _ _ hxk
   have hat0:=b_J hE hr hat hl (m:=x) hxE (i:=j) (Nat.le_of_lt hjl)
   have h0:=c_V hE hr (by omega) hL hok ha hl (j:=j) (x:=AY false x) (Nat.le_of_lt hjk) (by rw [hxb];exact hxE) rfl (K9 x) (AY true x) (.inr ⟨f_U x,by rw [hxb];exact hxl⟩)
   rw [hxb,lJ hat0]at h0
   have hnk:(AY true x).kids= []:=rfl
   rw [<- h_l hnk]at h0
   have hb0:gY T.bare p (setKids k.bare (xZ (aQ k.bare) j x))=(T.put p (k.markIt.setKids (kJ k.kids j (AY true x) 0))).bare:=by
    rw [A4 ha k.markIt (MT.bare_markIt k),c_Y, <- MT.kids_bare,AZ _ _ hxk,c_h hxk]
   have hw0:=FZ (o:=⟨1,p ++ [(j:Int)], [],0,x, []⟩) (.inl rfl) (by omega) hat0
   simp only [if_true]at hw0
   rw [List.map_cons,lJ hat0,List.map_map,List.range_eq_range']
   rw [hb0]at h0 hw0⊢
   have h2:=c_Z hE hr hok ha hl (j:=j) (m_s hxl) rfl (by rw [AZ _ _ hxk];exact hxE) (by rw [AZ _ _ hxk];exact hxl) m 0 _ (by rw [MT.kids_bare,List.length_map]at hm;omega) (by omega) h0
   rw [Nat.zero_add]at h2
   exact h2
 . have hj4:i7 r (aQ k.bare) 4=j:=hj
   obtain⟨g1,g2,g3,g4,g5⟩:=a_C hj4
   rw [a_Y rfl]
   simp only [Int.toNat_natCast,List.map_cons,List.map_nil]
   obtain⟨i,rfl⟩:∃i,j=i+1:=⟨j - 1,by omega⟩
   have e:i+1 - 1=i:=by omega
   rw [d_S rfl]
   simp only [Int.toNat_natCast]
   rw [e]at g4⊢
   rw [kid_at g2]at g3
   rw [kid_at (show i < (aQ k.bare).length by omega)]at g4
   rw [kid_at g2,kid_at (show i < (aQ k.bare).length by omega)]
   exact l_6 hE hr (by omega) hL hok ha hl g2 g4 g3 fun q hq hlq=>FQ (hKE q hq) hlq
 . have hjl:=hlt (by omega)
   rw [FX (.inr rfl)]
   simp only [Int.toNat_natCast,List.map_cons,List.map_nil]
   rw [kid_at hjl,a_K (.inr rfl)]
   simp only [Int.toNat_natCast]
   exact c_U hE hr (by omega) hL hok ha hl hjl
 . obtain rfl:=h66 rfl
   rw [c_l rfl]
   simp only [List.map_cons,List.map_nil]
   have hnil:k.kids= []:=by
    have hj6:i7 r (aQ k.bare) 6=0:=hj
    rw [zV]at hj6
    split at hj6
    . rename_i h
      have:=List.eq_nil_of_length_eq_zero h.1
      rw [MT.kids_bare]at this
      exact List.map_eq_nil_iff.1 this
    . cases hj6
   rw [f_Y rfl,show [if r.fill=1 then AY false (.mk true [] [] []) else AY true (fQ r.fillT)]=I5 k.kids 0 (if r.fill=1 then AY false (.mk true [] [] []) else AY true (fQ r.fillT))by rw [hnil];rfl]
   by_cases hfl:r.fill=1
   . rw [if_pos hfl,if_pos hfl]
     exact c_V hE hr (by omega) hL hok ha hl (j:=0) (x:=AY false (.mk true [] [] [])) (Nat.zero_le _) (by rw [AZ _ _ rfl];exact JZ) rfl (K9 _) _ (.inl ⟨rfl,rfl⟩)
   . rw [if_neg hfl,if_neg hfl]
     have h:=c_V hE hr (by omega) hL hok ha hl (j:=0) (x:=AY false (fQ r.fillT)) (Nat.zero_le _) (by rw [AZ _ _ (b_6 _)];exact hwn.2 rfl hfl) rfl (K9 _) (AY true (fQ r.fillT)) (.inr ⟨f_U _,by rw [AZ _ _ (b_6 _)];rfl⟩)
     rw [AZ _ _ (b_6 _)]at h
     exact h
theorem d_1 {want:aK ->Bool}:∀ (ks:List aK) (j:Nat) (q:List Int) (m:Nat) (k:aK) (x:List Int),ks[m]? =some k ->x∈qX want k (q ++ [((j+m:Nat):Int)]) ->x∈qY want ks j q
 | [],j,q,m,k,x,h,_=>by simp at h
 | c::ks,j,q,0,k,x,h,hx=>by
   simp at h
   subst h
   unfold qY
   exact List.mem_append.2 (.inl (by simpa using hx))
 | c::ks,j,q,m+1,k,x,h,hx=>by
   unfold qY
   refine List.mem_append.2 (.inr (d_1 ks (j+1) q m k x (by simpa using h) ?_))
   rw [show j+1+m=j+(m+1)by omega]
   exact hx
theorem d_T:∀ (p:List Int) (n k:aK) (q:List Int),kK n p=some k ->q ++ p∈qX (fun _=>true) n q
 | [], .mk l ps t ks,k,q,_=>by unfold qX;simp
 | i ::p, .mk l ps t ks,k,q,h=>by
   rw [kK]at h
   split at h
   . rename_i hi
     cases hk:ks[i.toNat]? with
     | none=>rw [show (aQ (.mk l ps t ks))[i.toNat]? =ks[i.toNat]? from rfl,hk]at h;cases h
     | some c=>
       rw [show (aQ (.mk l ps t ks))[i.toNat]? =ks[i.toNat]? from rfl,hk]at h
       have ih:=d_T p c k (q ++ [i]) h
       unfold qX
       refine List.mem_append.2 (.inr (d_1 ks 0 q i.toNat c _ hk ?_))
       rw [show ((0+i.toNat:Nat):Int)=i by omega]
       simpa using ih
   . cases h
theorem f_Z {n:aK} {q:List Int} (h:jV n q=true):q∈L8 n:=by
 unfold jV at h
 cases hat:kK n q with
 | none=>rw [hat]at h;cases h
 | some k=>simpa using d_T q n k [] hat
mutual
theorem b_B (want:aK ->Bool):∀ (n:aK) (p x:List Int),x∈qX want n p ->x.length <= p.length+n.wt
 | .mk l ps t ks,p,x=>by
   intro h
   unfold qX at h
   rcases List.mem_append.1 h with h | h
   . split at h
     . rw [List.mem_singleton.1 h];omega
     . simp at h
   . have:=b_C want ks 0 p x h
     simp only [aK.wt];omega
theorem b_C (want:aK ->Bool):∀ (ks:List aK) (i:Nat) (p x:List Int),x∈qY want ks i p ->x.length <= p.length+1+dX ks
 | [],i,p,x=>by intro h;unfold qY at h;simp at h
 | k ::ks,i,p,x=>by
   intro h
   unfold qY at h
   simp only [dX]
   rcases List.mem_append.1 h with h | h
   . have:=b_B want k _ x h
     simp at this;omega
   . have:=b_C want ks (i+1) p x h
     omega
end
mutual
def MT.ofL (f:List Int ->Bool):aK ->List Int ->MT
 | .mk l ps t ks,q=> .mk (f q && !l) l ps t (MT.ofK f ks 0 q)
def MT.ofK (f:List Int ->Bool):List aK ->Nat ->List Int ->List MT
 | [],_,_=> []
 | k::ks,i,q=>MT.ofL f k (q ++ [(i:Int)])::MT.ofK f ks (i+1) q
end
mutual
theorem g_0 (f:List Int ->Bool):∀ (n:aK) (q:List Int),(MT.ofL f n q).bare=n
 | .mk l ps t ks,q=>by rw [MT.ofL,MT.bare,MT.bares_map,g_1 f ks 0 q]
theorem g_1 (f:List Int ->Bool):∀ (ks:List aK) (i:Nat) (q:List Int),(MT.ofK f ks i q).map MT.bare=ks
 | [],i,q=>rfl
 | k::ks,i,q=>by rw [MT.ofK,List.map_cons,g_0 f k,g_1 f ks]
end
theorem h_V (f:List Int ->Bool):∀ (ks:List aK) (i:Nat) (q:List Int) (j:Nat),(MT.ofK f ks i q)[j]? =(ks[j]?).map fun k=>MT.ofL f k (q ++ [((i+j:Nat):Int)])
 | [],i,q,j=>by simp [MT.ofK]
 | k::ks,i,q,0=>by simp [MT.ofK]
 | k::ks,i,q,j+1=>by
   rw [MT.ofK,List.getElem?_cons_succ,List.getElem?_cons_succ,h_V f ks (i+1) q j,show i+1+j=i+(j+1)by omega]
theorem l_9 (f:List Int ->Bool):∀ (r:List Int) (n:aK) (q:List Int),(MT.ofL f n q).mk? r=(f (q ++ r) && jV n r)
 | [], .mk l ps t ks,q=>by
   rw [MT.ofL,MT.mk_nil,List.append_nil]
   rfl
 | c ::r, .mk l ps t ks,q=>by
   rw [MT.ofL]
   unfold MT.mk? jV kK
   by_cases h0:0 <= c
   . obtain ⟨j,rfl⟩:∃j:Nat,c=j:=⟨c.toNat,by omega⟩
     rw [if_pos h0,if_pos h0,Int.toNat_natCast]
     simp only [MT.kids,aQ]
     rw [h_V,Nat.zero_add]
     cases hj:ks[j]? with
     | none=>simp
     | some k=>
       simp only [Option.map]
       rw [l_9 f r k,List.append_assoc]
       rfl
   . rw [if_neg h0,if_neg h0];simp
mutual
theorem l_a (f:List Int ->Bool):∀ (n:aK) (q:List Int),(MT.ofL f n q).Ok
 | .mk l ps t ks,q=>by
   rw [MT.ofL]
   exact .mk (fun h=>by simp at h;exact h.2) (l_b f ks 0 q)
theorem l_b (f:List Int ->Bool):∀ (ks:List aK) (i:Nat) (q:List Int),∀x∈MT.ofK f ks i q,x.Ok
 | [],i,q=>by simp [MT.ofK]
 | k::ks,i,q=>by
   rw [MT.ofK]
   exact b_O (l_a f k _) (l_b f ks (i+1) q)
end
def MT.on (L:List (List Int)) (n:aK):MT:=MT.ofL (fun q=>decide (q∈L)) n []
theorem m_t (L:List (List Int)) (n:aK):(MT.on L n).bare=n:=g_0 _ n []
theorem n_T (L:List (List Int)) (n:aK):(MT.on L n).Ok:=l_a _ n []
theorem n_U (L:List (List Int)) (n:aK) (q:List Int):(MT.on L n).mk? q=true ↔ q∈L/\jV n q=true:=by
 unfold MT.on
 rw [l_9]
 simp
theorem h_p {T:MT} (hm:T.mark=false) (hk:∀x∈T.kids,∀r,x.mk? r=false):∀r,T.mk? r=false
 | []=>hm
 | c ::r=>by
   cases h:T.mk? (c::r)with
   | false=>rfl
   | true=>
     obtain⟨j,rfl,hj,h2⟩:=MT.mk_cons_true h
     rw [hk _ (List.getElem_mem hj) r]at h2
     cases h2
theorem I8 {T:MT} (h:∀r,T.mk? r=false):∀x∈T.kids,∀r,x.mk? r=false:=fun x hx r=>by
 obtain⟨j,hj,rfl⟩:=List.mem_iff_getElem.1 hx
 rw [<- MT.mk_cons hj]
 exact h _
theorem j_8 (r:bJ) (ks:List aK) (p:List Int) (f:qJ):∀o∈lX r ks p f,o.dest.length <= p.length+2:=by
 intro o ho
 unfold lX at ho
 split at ho
 . rw [List.mem_singleton.1 ho];simp
 split at ho
 . rcases List.mem_append.1 ho with ho | ho
   . obtain ⟨i, -,rfl⟩:=List.mem_map.1 ho
     simp
   . rw [List.mem_singleton.1 ho];simp
 split at ho
 . rcases List.mem_cons.1 ho with rfl | ho
   . simp
   . obtain ⟨i, -,rfl⟩:=List.mem_map.1 ho
     simp
 split at ho
 . rw [List.mem_singleton.1 ho];simp
 . rw [List.mem_singleton.1 ho];simp
theorem h_q {s:b8} {k:MT} (hf:(g9 s k.bare).1≠0) (hn:∀r,k.mk? r=false) (c:Nat) (x:MT) (hx:(a_4 (bV s (dZ k.bare)) k.kids (g9 s k.bare))[c]? =some x) (r:List Int) (hm:x.mk? r=true):
 ((g9 s k.bare).1=3∨ (g9 s k.bare).1=6)/\(c:Int)=(g9 s k.bare).2.1/\r= []:=by
 have hk:=I8 hn
 rcases o8 s k.bare with e | ⟨d,j, -,h1,h6,hj,he,hlt,h4,h66⟩
 . rw [e]at hf;exact absurd rfl hf
 rw [he]at hx⊢
 generalize bV s (dZ k.bare)=R at hx hj
 have hkid:∀i,∀r,(rJ k.kids i).mk? r=false:=fun i=>by
  unfold rJ
  rw [List.getD]
  cases hi:k.kids[i]? with
  | none=>exact K9 _
  | some x=>exact hk x (List.mem_of_getElem? hi)
 have hno:∀ {P:Prop},(∀y∈a_4 R k.kids ((d:Int),(j:Int),(i9 R (aQ k.bare) d:Int)),∀r,y.mk? r=false) ->P:=fun h=>by
  have:=h x (List.mem_of_getElem? (by exact hx)) r
  rw [hm]at this;cases this
 obtain rfl | rfl | rfl | rfl | rfl | rfl:d=1∨d=2∨d=3∨d=4∨d=5∨d=6:=by omega
 . refine hno ?_
   rw [a_K (.inl rfl)]
   exact fun y hy=>hk y (List.mem_of_mem_eraseIdx hy)
 . refine hno ?_
   rw [f_X rfl]
   intro y hy
   rcases List.mem_append.1 hy with hy | hy
   . exact hk y (List.mem_of_mem_take hy)
   . rcases List.mem_append.1 hy with hy | hy
     . exact I8 (hkid _) y hy
     . exact hk y (List.mem_of_mem_drop hy)
 . have hjl:j < k.kids.length:=by have:=hlt (by omega);rw [MT.kids_bare,List.length_map]at this;exact this
   rw [d_0 rfl]at hx
   simp only [Int.toNat_natCast]at hx
   unfold kJ at hx
   have hl:(k.kids.take j).length=j:=by simp;omega
   refine⟨.inl rfl, ?_⟩
   show (c:Int)=(j:Int)/\r= []
   rcases Nat.lt_trichotomy c j with h | h | h
   . rw [List.getElem?_append_left (by omega)]at hx
     rw [hk x (List.mem_of_mem_take (List.mem_of_getElem? hx)) r]at hm;cases hm
   . subst h
     rw [List.getElem?_append_right (by omega),hl,Nat.sub_self,List.getElem?_cons_zero]at hx
     injection hx with hx
     subst hx
     refine⟨rfl, ?_⟩
     cases r with
     | nil=>rfl
     | cons z r=>
       obtain⟨i, -,hi,h2⟩:=MT.mk_cons_true hm
       simp only [MT.kids_setKids]at hi h2
       rw [hk _ (List.mem_of_mem_drop (List.mem_of_mem_take (List.getElem_mem hi))) r]at h2
       cases h2
   . rw [List.getElem?_append_right (by omega),hl,show c - j=(c - j - 1)+1 by omega,List.getElem?_cons_succ]at hx
     rw [hk x (List.mem_of_mem_drop (List.mem_of_getElem? hx)) r]at hm;cases hm
 . refine hno ?_
   rw [d_S rfl]
   intro y hy
   rcases List.mem_or_eq_of_mem_set hy with hy | rfl
   . exact hk y (List.mem_of_mem_eraseIdx hy)
   . have g1:=hkid (((j:Int).toNat) - 1)
     have g2:=hkid ((j:Int).toNat)
     show ∀r,(G0 (rJ k.kids (((j:Int).toNat) - 1)) (rJ k.kids ((j:Int).toNat))).mk? r=false
     generalize rJ k.kids (((j:Int).toNat) - 1)=a at g1⊢
     generalize rJ k.kids ((j:Int).toNat)=b at g2⊢
     obtain⟨m,l,ps,t,ks⟩:=a
     obtain⟨m',l',ps',t',ks'⟩:=b
     refine h_p (g1 []) fun z hz=> ?_
     rcases List.mem_append.1 hz with hz | hz
     . exact I8 g1 z hz
     . exact I8 g2 z hz
 . refine hno ?_
   rw [a_K (.inr rfl)]
   exact fun y hy=>hk y (List.mem_of_mem_eraseIdx hy)
 . obtain rfl:=h66 rfl
   rw [f_Y rfl]at hx
   refine⟨.inr rfl, ?_⟩
   show (c:Int)=((0:Nat):Int)/\r= []
   cases c with
   | succ c=>simp at hx
   | zero=>
     refine⟨rfl, ?_⟩
     rw [List.getElem?_cons_zero]at hx
     injection hx with hx
     subst hx
     split at hm
     . rw [K9]at hm;cases hm
     . cases r with
       | nil=>rfl
       | cons z r=>
         obtain⟨i, -,hi,h2⟩:=MT.mk_cons_true hm
         simp [AY,MT.kids]at hi
theorem j_9 {s:b8} {n k:aK} {p:List Int} (hs:uX s=0) (hE:eQ n=0) (hr:aZ n=false) (hw:n.wt <= 900000) (ha:kK n p=some k) (hf:(g9 s k).1≠0):
 p∈mV n [] ((lX (bV s (dZ k)) (aQ k) p (g9 s k)).map j7.full)/\
 ∀q∈mV n [] ((lX (bV s (dZ k)) (aQ k) p (g9 s k)).map j7.full),q=p∨ ((g9 s k).1=3∨ (g9 s k).1=6)/\q=p ++ [(g9 s k).2.1]:=by
 have hTb:=m_t [] n
 have hTn:∀r,(MT.on [] n).mk? r=false:=fun r=>by
  cases h:(MT.on [] n).mk? r with
  | false=>rfl
  | true=>have:=((n_U [] n r).1 h).1;cases this
 have hL:D7 [] (MT.on [] n):=⟨List.Pairwise.nil,fun q=>by rw [hTn];simp⟩
 have hok:=n_T [] n
 generalize MT.on [] n=T at hTb hTn hL hok
 subst hTb
 obtain⟨k',hk',rfl⟩:∃k',T.at_ p=some k'/\k'.bare=k:=by
  rw [MT.at_bare]at ha
  cases hk:T.at_ p with
  | none=>rw [hk]at ha;cases ha
  | some k'=>rw [hk]at ha;exact⟨k',rfl,by simpa using ha⟩
 have hkn:∀r,k'.mk? r=false:=fun r=>by rw [<- MT.mk_app p r T k' hk'];exact hTn _
 obtain⟨-,h⟩:=l_8 hs hE hr hw hL hok hk' hf
 have hput:=MT.at_put p T k' (k'.markIt.fix s) hk'
 refine⟨(h p).2 ?_,fun q hq=> ?_⟩
 . have:=MT.mk_app p [] _ _ hput
   rw [List.append_nil]at this
   rw [this,MT.mk_nil,MT.mark_fix,MT.mark_markIt]
 . have hm:=(h q).1 hq
   by_cases hpq:p <+:q
   . obtain ⟨b,rfl⟩:=hpq
     rw [MT.mk_app p b _ _ hput]at hm
     cases b with
     | nil=>exact .inl (by simp)
     | cons c r=>
       obtain⟨j,rfl,hj,h2⟩:=MT.mk_cons_true hm
       have hx:(a_4 (bV s (dZ k'.bare)) k'.kids (g9 s k'.bare))[j]? =some (k'.markIt.fix s).kids[j]:=by
        rw [<- List.getElem?_eq_getElem hj]
        unfold MT.fix
        rw [MT.kids_setKids,MT.kids_markIt,MT.bare_markIt]
       obtain⟨g1,g2,g3⟩:=h_q hf hkn j _ hx r h2
       subst g3
       exact .inr ⟨g1,by rw [g2]⟩
   . rw [MT.mk_put2 p q T k' _ hk' hpq,hTn]at hm
     cases hm
def o_0 (R:Option aK):Int:=match R with | none=>5 | some _=>0
theorem l_h.alike {W:World} {R:Option aK} {e:Ending} {w':World} (h:l_h W R e w'):Below W.heap.size W w'/\∃ (x0:Bool) (x1 x2 x3:Option Addr) (y1 y2 y3 z1 z2 z3:Nat),
 e= .returned (.tuple #[.agg #[.bool x0, .slice x1 y1 z1, .slice x2 y2 z2, .slice x3 y3 z3], .int .i64 (o_0 R)])/\NodeQ w' (fun b=>W.heap.size <= b) (R.getD bZ) [.bool x0, .slice x1 y1 z1, .slice x2 y2 z2, .slice x3 y3 z3]:=by
 cases R with
 | none=>
   obtain⟨rfl,hb⟩:=h
   exact⟨hb,_,_,_,_,_,_,_,_,_,_,rfl,b_Y _ _⟩
 | some m=>
   obtain⟨cs,rfl,hq,hb⟩:=h
   obtain⟨x0,x1,y1,z1,x2,y2,z2,x3,y3,z3,rfl⟩:=hq.form
   exact⟨hb,x0,x1,x2,x3,y1,y2,y3,z1,z2,z3,rfl,hq⟩
theorem l_c (B n:Nat) (a:Option Addr) (cap:Nat) (cs:List Value) (w:World) (hr:RowA w B 1 a n cap cs) (hB:B <= w.heap.size) (hn:n <= 100000000):
 Calls Tryz.prog 73 #[.slice a n cap] w (rK w 3 1 n cs):=by
 go_enter Tryz.func73,Tryz.ntmps73
 go_wp2_with (at_builtin;refine nY rfl _ _ 36 rfl w.heap.size 3 (.int .i64 0) 1 8 Tryz.underlying36 F7 rfl (by decide) _ 0 [] rfl (World.ownsRow_nil _ _ _ _) _ n cap B cs rfl hr ?h63 ?hb ?hbase ?_)
 case h63=>unfold maxLen;omega
 case hb=>omega
 case hbase=>simp
 intro v' w1 hown hgrow
 have Ho:=a6 hown;have Hg:=a6 hgrow;clear hown hgrow hr
 go_wp2_with fail
 go_ret
 exact⟨v',rfl,by simpa using Ho.o,(a7).grown Hg.o (a8) (by simp [Value.ownBlock])⟩
theorem n_q (p l:List Int) (pa:Option Addr) (pc:Nat) (la:Option Addr) (lc:Nat) (W:World) (hp:RowA W W.heap.size 1 pa p.length pc (p.map (Value.int .i64))) (hl:RowA W W.heap.size 1 la l.length lc (l.map (Value.int .i64))) (hn:p.length+l.length <= 100000000):
 Calls Tryz.prog 18 #[.slice pa p.length pc, .slice la l.length lc] W (a_v W (p ++ l)):=by
 have HC:=a6 (l_c _ p.length pa pc _ W hp (a8) (by omega))
 have Hl:=a6 hl
 obtain⟨zs,hzs⟩:∃zs,zs=p ++ l:=⟨_,rfl⟩
 rw [<- hzs]
 have Hzs:=a6 hzs
 clear hp hl hzs
 go_enter Tryz.func18,Tryz.ntmps18
 go_wp2_with fail
 refine HC.o.mono ?_
 rintro e w1 ⟨v,rfl,hown,hbel⟩
 have Ho:=a6 hown;have Hb1:=a6 hbel
 have Hl1:=a6 (Hl.o.keep hbel hbel.size)
 clear hown hbel HC
 go_wp2_with (at_builtin;refine nY rfl _ _ 36 rfl W.heap.size 3 (.int .i64 0) 1 8 Tryz.underlying36 F7 rfl (by decide) _ _ _ rfl Ho.o _ l.length lc _ (l.map (Value.int .i64)) rfl Hl1.o ?h63 ?hb ?hbase ?_)
 case h63=>unfold maxLen;omega
 case hb=>omega
 case hbase=>exact Hb1.o.size
 intro v' w2 hown hgrow
 have hb2:=Hb1.o.grown hgrow Hb1.o.size (fun k hk=>(Ho.o.lt k hk).1)
 rw [<- List.map_append,show p.length+l.length=(p ++ l).length by simp, <- Hzs.o]at hown
 obtain⟨a,c,rfl,hq⟩:=oK hown (tQ _)
 have Hq:=a6 hq;have Hb2:=a6 hb2
 clear hown hgrow hb2 hq
 go_wp2_with fail
 go_ret
 exact⟨_,_,rfl,Hq.o,Hb2.o⟩
end Go.Proofs.YtmadpclcmjahoaaGreatDoor
