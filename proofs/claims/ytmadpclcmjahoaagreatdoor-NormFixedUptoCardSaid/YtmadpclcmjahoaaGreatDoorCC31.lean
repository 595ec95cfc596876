/- Parts of the proof: CC31. -/
import Derived.Test.YtmadpclcmjahoaaGreatDoorCC30
set_option linter.unusedVariables false
set_option linter.unusedSimpArgs false
set_option maxHeartbeats 8000000
set_option maxRecDepth 100000
namespace Go.Proofs.YtmadpclcmjahoaaGreatDoor
open Go.RowKit Go.Redl
theorem a_M (n:aX):b8 (jY n)=b8 n:=XV
theorem f_g (n:aX):dJ (jY n)=dJ n:=XV
theorem r_a (n:aX):iJ (jY n)=iJ n:=XV
theorem h_l (n:aX):dZ (jY n)=dZ n:=by unfold dZ;rw [a_M,f_g]
theorem p_y (r:bK) (n:aX):eQ r (jY n)=eQ r n:=by unfold eQ;rw [a_M,h_l]
theorem p_z (ks:List aX) (i:Nat):cY (ks.map jY) i=jY (cY ks i):=by
 unfold cY;simp only [List.getD,List.getElem?_map];cases ks[i]? with
 | none=>rfl
 | some k=>rfl
theorem p_A (r:bK) (ks:List aX) (c:Int):D2 r (ks.map jY) c=D2 r ks c:=by
 funext i
 unfold D2;rw [p_z,p_z,p_y,a_M,a_M,f_g,f_g,r_a,O6]
theorem l_x (r:bK) (ks:List aX) (c:Int):gV r (ks.map jY) c=gV r ks c:=by
 unfold gV;rw [p_A,O6]
theorem r_b (r:bK) (ks:List aX) (c:Int):j7 r (ks.map jY) c=j7 r ks c:=by
 unfold j7;rw [l_x];have e:m9 r (ks.map jY)=m9 r ks:=by
  show (ks.map jY).map (eQ r)=ks.map (eQ r)
  rw [List.map_map];exact List.map_congr_left fun k _=>p_y r k
 rw [e]
theorem h_m (r:bK) (ks:List aX):∀cs:List Int,wZ r (ks.map jY) cs=wZ r ks cs
 | []=>by unfold wZ;rfl
 | c::cs=>by
   unfold wZ;rw [l_x,r_b,h_m r ks cs]
theorem k_J (s:b5) {n n':aX} (h:jY n=jY n') (hk:(aY n).map jY=(aY n').map jY):eV s n=eV s n':=by
 unfold eV;rw [<- a_M n, <- h_l n,h,a_M,h_l, <- h_m _ (aY n),hk,h_m]
theorem b_t (s:b5) {n:aX} (h:b8 n=true):eV s n=(0,0,0):=by unfold eV;rw [if_pos h]
theorem f_h (T:MT) (ks:List MT):jY (T.setKids ks).bare=jY T.bare:=SV
theorem j_4 (s:b5) (k:MT):jY (k.look1 s).bare=jY k.bare:=by
 unfold MT.look1;split
 . rw [MT.bare_unmark]
 unfold MT.fix;rw [f_h]
theorem p_B:∀ (p:List Int) {T k m:MT},T.at_ p=some k ->jY m.bare=jY k.bare ->jY (T.put p m).bare=jY T.bare
 | [],T,k,m,ha,h=>by
   have e:T=k:=YQ
   subst e;simp only [MT.put];exact h
 | i::p,T,k,m,ha,h=>by
   obtain⟨j,rfl,hj,h2⟩:=MT.at_cons_some ha;rw [MT.put_cons hj,f_h]
theorem j_5 (s:b5) {p:List Int} {T k m:MT} (hp:p≠ []) (ha:T.at_ p=some k) (h:jY m.bare=jY k.bare):eV s (T.put p m).bare=eV s T.bare:=by
 cases p with
 | nil=>exact absurd rfl hp
 | cons i p=>
   refine k_J s (p_B (i::p) ha h) ?_;obtain⟨j,rfl,hj,h2⟩:=MT.at_cons_some ha;rw [MT.put_cons hj,MT.kids_bare,MT.kids_bare,MT.kids_setKids,List.map_map,List.map_map];refine List.ext_getElem P6 fun i h1 h3=> ?_
   simp only [List.getElem_map,Function.comp];rw [List.getElem_set];split
   . rename_i e
     subst e;exact p_B p h2 h
   rfl
theorem p_C {p:List Int} {T m:MT} (hp:p≠ []):(T.put p m).mark=T.mark:=by
 cases p with
 | nil=>exact absurd rfl hp
 | cons i p=>
   unfold MT.put;split
   . rw [MT.mark_setKids]
   rfl
def r_c (s:b5) (p:List Int) (T:MT):Prop:= ∃k,T.at_ p=some k/\(∀q,q <+:p ->q≠p ->T.mk? q=false)/\(k.mark=true∨ (eV s k.bare).1=0)
theorem n_e {s:b5} {p r:List Int} {T:MT} (h:r_c s p T) (ht:T.top r):r_c s p (T.look s r):=by
 obtain⟨k,ha,hpre,hk⟩:=h;obtain⟨kr,c,g⟩:=(MT.mk_at r T).1 ht.1;rw [FY c];by_cases h1:r <+:p
 . by_cases e:r=p
   . subst e
     have e2:=Option.some.inj (ha.symm.trans c);subst e2;refine⟨_,MT.at_put r T k _ ha,fun q hq a=> ?_, ?_⟩
     . rw [MT.mk_put2 r q T k _ ha (fun h2=>a (hq.eq_of_length (Nat.le_antisymm hq.length_le h2.length_le)))]
       exact hpre q hq a
     unfold MT.look1
     split
     . rename_i hf;right;rw [MT.bare_unmark];exact hf
     left;rw [MT.mark_fix];exact g
   have:=hpre r h1 e;rw [ht.1]at this;cases this
 by_cases h2:p <+:r
 . obtain ⟨b,rfl⟩:=h2
   have hb:b≠ []:=by rintro rfl;exact h1 P6
   have d:T.mk? p=false:=ht.2 p ⟨b,rfl⟩ (fun e=>hb (by simpa using e));rw [MT.at_append,ha]at c;have f:k.at_ b=some kr:=c
   rw [MT.put_append p b T k _ ha];have i:k.mark=false:=by
    cases hm:k.mark with
    | false=>rfl
    | true=>rw [(MT.mk_at p T).2 ⟨k,ha,hm⟩]at d;cases d
   refine⟨_,MT.at_put p T k _ ha,fun q hq a=> ?_, .inr ?_⟩
   . rw [MT.mk_put2 p q T k _ ha (fun h2=>a (hq.eq_of_length (Nat.le_antisymm hq.length_le h2.length_le)))]
     exact hpre q hq a
   rw [j_5 s hb f (j_4 s kr)];rcases hk with hk | hk
   . rw [i]at hk;cases hk
   exact hk
 refine⟨k,by rw [MT.at_put_other r p T kr _ c h1 h2];exact ha,fun q hq a=> ?_,hk⟩;rw [MT.mk_put2 r q T kr _ c (fun h3=>h1 (h3.trans hq))];exact hpre q hq a
theorem p_D {s:b5} {picks:List Int} {k m:Nat} {T A:MT} {ops:List fZ} (h:wX s picks k T A m ops) {p:List Int} (hp:r_c s p T):∃kk,A.at_ p=some kk/\(eV s kk.bare).1=0:=by
 induction h with
 | done h=>
   obtain⟨kk,ha, -,hk⟩:=hp;refine⟨kk,ha, ?_⟩;rcases hk with hk | hk
   . have:=(MT.mk_at p _).2 ⟨kk,ha,hk⟩
     rw [h]at this;cases this
   exact hk
 | step hL hq r ih=>exact ih (n_e hp (yX hL (List.mem_of_getElem? hq)))
theorem f_i {s:b5} {T k:MT} {p:List Int} (ha:T.at_ p=some k) (hf:(eV s k.bare).1=0):(T.look s p).bare=T.bare:=by
 rw [FY ha,MT.bare_put p T k _ ha];unfold MT.look1;rw [if_pos hf,MT.bare_unmark,K5 p T.bare k.bare QK]
theorem n_f {s:b5} (hs:eJ s=0) {picks:List Int} {k m:Nat} {T A:MT} {ops:List fZ} (h:wX s picks k T A m ops):(ops= [] ->A.bare=T.bare)/\(ops≠ [] ->A.bare≠T.bare):=by
 induction h with
 | done h=>exact⟨fun _=>rfl,fun h=>absurd rfl h⟩
 | step hL hp r ih=>
   rename_i k m T A ops L p
   have a:=yX hL (List.mem_of_getElem? hp);obtain⟨kk,ha,hm⟩:=(MT.mk_at p T).1 a.1
   by_cases hf:(eV s kk.bare).1=0
   . rw [MK ha hf,List.nil_append, <- f_i ha hf]
     exact ih
   have c:T.opsAt s p≠ []:=by
    rcases g_i hs T p with⟨e1, -⟩ | ⟨-,e2⟩
    . unfold MT.wrong at e1
      rw [ha]at e1;simp only at e1;rw [if_neg hf]at e1;cases e1
    exact e2
   refine⟨fun e=>absurd (List.append_eq_nil_iff.1 e).1 c,fun _ e=> ?_⟩;have hh:r_c s p (T.look s p):=by
    rw [FY ha];refine⟨_,MT.at_put p T kk _ ha,fun q hq b=> ?_, .inl ?_⟩
    . rw [MT.mk_put2 p q T kk _ ha (fun h2=>b (hq.eq_of_length (Nat.le_antisymm hq.length_le h2.length_le)))]
      exact a.2 q hq b
    unfold MT.look1;rw [if_neg hf,MT.mark_fix];exact hm
   obtain⟨kA,h1,h2⟩:=p_D r hh;have e1:l9 A.bare p=some kA.bare:=by rw [MT.at_bare,h1];rfl
   have e2:l9 T.bare p=some kk.bare:=QK
   rw [e,e2]at e1;rw [Option.some.inj e1]at hf;exact hf h2
def xV (s:b5) (T:MT):Prop:= ∀q k,T.at_ q=some k ->k.mark=false ->(eV s k.bare).1=0
theorem xV.at_ {s:b5} {T k:MT} {p:List Int} (h:xV s T) (ha:T.at_ p=some k):xV s k:=fun q x hq hm=>h (p ++ q) x (by rw [MT.at_append,ha];exact hq) hm
theorem xV.kids {s:b5} {T:MT} (h:xV s T):∀x∈T.kids,xV s x:=fun x hx=>by
 obtain⟨j,hj,rfl⟩:=List.mem_iff_getElem.1 hx;exact h.at_ (p:= [(j:Int)]) (by rw [MT.at_cons hj];rfl)
theorem L4 {s:b5} {T:MT} (h0:T.mark=false ->(eV s T.bare).1=0) (hk:∀x∈T.kids,xV s x):xV s T
 | [],k,ha,hm=>by
   have e:T=k:=YQ
   subst e;exact h0 hm
 | i::q,k,ha,hm=>by
   obtain⟨j,rfl,hj,h2⟩:=MT.at_cons_some ha;exact hk _ (NY hj) q k h2 hm
theorem k_K (s:b5) (m l:Bool) (ps:List fQ) (t:List Int) (h:l=true):xV s (.mk m l ps t []):=by
 refine L4 (fun _=> ?_) (fun x hx=>by cases hx);rw [b_t s (show b8 (MT.mk m l ps t []).bare=true from h)]
theorem k_L (s:b5):∀x∈ (r_q).kids,xV s x:=fun x hx=>by cases hx
theorem j_6 {s:b5} {k:MT} (hm:k.mark=true) (g:b8 k.bare=false) (h:xV s k):xV s (k.look1 s):=by
 unfold MT.look1;split
 . rename_i hf
   refine L4 (fun _=>by rw [MT.bare_unmark];exact hf) ?_;rw [MT.kids_unmark];exact h.kids
 rename_i hf
 refine L4 (fun e=>by rw [MT.mark_fix,hm]at e;cases e) ?_;unfold MT.fix;rw [MT.kids_setKids];have hk:=h.kids
 rcases oV s k.bare with e | ⟨c,j, -,h1,h6,hj,he,n,h4,o⟩
 . rw [e]at hf;exact absurd rfl hf
 rw [he];generalize cJ s (dZ k.bare)=r at hj⊢;have d:∀i,∀x∈ (tY k.kids i).kids,xV s x:=fun i=>by
  unfold tY;rw [List.getD];cases hi:k.kids[i]? with
  | none=>exact k_L s
  | some x=>exact(hk x (List.mem_of_getElem? hi)).kids
 unfold a_O;split
 . exact fun x hx=>hk x (List.mem_of_mem_eraseIdx hx)
 split
 . intro x hx
   rcases OQ hx with hx | hx
   . exact hk x (List.mem_of_mem_take hx)
   rcases OQ hx with hx | hx
   . exact d _ x hx
   exact hk x (List.mem_of_mem_drop hx)
 split
 . intro x hx
   rcases OQ hx with hx | hx
   . exact hk x (List.mem_of_mem_take hx)
   rcases OJ hx with rfl | hx
   . refine L4 (fun e=>by rw [MT.mark_setKids]at e;cases e) ?_
     rw [MT.kids_setKids];exact fun x hx=>hk x (List.mem_of_mem_drop (List.mem_of_mem_take hx))
   exact hk x (List.mem_of_mem_drop hx)
 split
 . rename_i f
   simp only at f;obtain rfl:c=4:=P2
   obtain⟨g1,g2,g3,g4,g5⟩:=a_i (show gV r (aY k.bare) 4=j from hj);intro x hx;rcases List.mem_or_eq_of_mem_set hx with hx | rfl
   . exact hk x (List.mem_of_mem_eraseIdx hx)
   simp only [O0];have e1:=d (j - 1);have e2:=d j;have e3:b8 (tY k.kids (j - 1)).bare=true:=by rw [KY, <- MT.kids_bare];exact g4
   generalize tY k.kids (j - 1)=a at e1 e3⊢;generalize tY k.kids j=b at e2⊢;obtain⟨m,l,ps,t,ks⟩:=a;obtain⟨m',l',ps',t',ks'⟩:=b;refine L4 (fun _=> ?_) ?_
   . have hl:b8 (KX (MT.mk m l ps t ks) (MT.mk m' l' ps' t' ks')).bare=true:=e3
     rw [b_t s hl]
   intro x hx;rcases OQ hx with hx | hx
   . exact e1 x hx
   exact e2 x hx
 intro x hx;rw [O9 hx];split
 . exact k_K s _ _ _ _ rfl
 refine L4 (fun e=>by cases e) (fun x hx=>by cases hx)
theorem k_M {s:b5} {T:MT} {r:List Int} (hok:T.Ok) (h:xV s T) (ht:T.top r):xV s (T.look s r):=by
 obtain⟨kr,a,d⟩:=(MT.mk_at r T).1 ht.1;have f:b8 kr.bare=false:=by
  have h2:=MT.Ok.elem r hok ht.1;unfold dX at h2;rw [MT.at_bare,a]at h2;simpa using h2
 have g:=j_6 d f (h.at_ a);rw [FY a];intro q k ha hm;by_cases h1:r <+:q
 . obtain ⟨b,rfl⟩:=h1
   rw [MT.at_append,MT.at_put r T kr _ a]at ha;exact g b k ha hm
 by_cases h2:q <+:r
 . obtain ⟨b,rfl⟩:=h2
   have hb:b≠ []:=by rintro rfl;exact h1 P6
   rw [MT.at_append]at a;cases hq:T.at_ q with
   | none=>rw [hq]at a;cases a
   | some k0=>
     rw [hq]at a;have c:k0.at_ b=some kr:=a
     rw [MT.put_append q b T k0 _ hq,MT.at_put q T k0 _ hq]at ha;have e:=Option.some.inj ha
     subst e;rw [p_C hb]at hm;rw [j_5 s hb c (j_4 s kr)];exact h q k0 hq hm
 rw [MT.at_put_other r q T kr _ a h1 h2]at ha;exact h q k ha hm
theorem n_g {s:b5} {picks:List Int} {k m:Nat} {T A:MT} {ops:List fZ} (hs:eJ s=0) (h:wX s picks k T A m ops) (hE:dQ T.bare=0) (hok:T.Ok) (hr:xV s T):(∀q x,A.at_ q=some x ->(eV s x.bare).1=0)/\dQ A.bare=0/\b8 A.bare=b8 T.bare:=by
 induction h with
 | done h=>
   refine⟨fun q x ha=>hr q x ha ?_,hE,rfl⟩
   cases hm:x.mark with
   | false=>rfl
   | true=>have:=(MT.mk_at q _).2 ⟨x,ha,hm⟩;rw [h]at this;cases this
 | step hL hp r ih=>
   rename_i k m T A ops L p
   have a:=yX hL (List.mem_of_getElem? hp);obtain⟨kk,ha,hm⟩:=(MT.mk_at p T).1 a.1;obtain⟨h1,h2,h3⟩:=ih (qZ hs p hE) (c_h hs p hE hok) (k_M hok hr a);exact⟨h1,h2,h3.trans (g_j ha)⟩
theorem p_E {s:b5} {n:aX} {L:List (List Int)} (hL:∀q,dX n q=true ->q∈L):xV s (MT.on L n):=fun q k ha hm=>by
 cases hl:b8 k.bare with
 | true=>rw [b_t s hl]
 | false=>
   have hb:l9 n q=some k.bare:=by
    have:=MT.at_bare q (MT.on L n);rw [mZ,ha]at this;exact this
   have he:dX n q=true:=by unfold dX;rw [hb];simp [hl]
   have:=(l_r L n q).2 ⟨hL q he,he⟩;obtain⟨t,h1,h2⟩:=(MT.mk_at q _).1 this;rw [ha]at h1;rw [<- Option.some.inj h1,hm]at h2;cases h2
mutual
def kZ (s:b5):aX ->Bool
 | .mk l ps t ks=>decide ((eV s (.mk l ps t ks)).1=0) && a_x s ks
def a_x (s:b5):List aX ->Bool
 | []=>true
 | k::ks=>kZ s k && a_x s ks
end
theorem f_j (s:b5):∀ks:List aX,a_x s ks=ks.all (kZ s)
 | []=>by rw [a_x];rfl
 | k::ks=>by rw [a_x,f_j s ks,List.all_cons]
theorem c_R (s:b5) (n:aX):kZ s n=(decide ((eV s n).1=0) && (aY n).all (kZ s)):=by
 obtain⟨l,ps,t,ks⟩:=n;rw [kZ,f_j];rfl
theorem j_7 (s:b5):∀ (p:List Int) {n k:aX},kZ s n=true ->l9 n p=some k ->(eV s k).1=0
 | [],n,k,h,ha=>by
   have e:n=k:=t_R
   subst e;rw [c_R,Bool.and_eq_true,decide_eq_true_eq]at h;exact h.1
 | i::p,n,k,h,ha=>by
   obtain⟨j,rfl,hj,h2⟩:=jQ ha;rw [c_R,Bool.and_eq_true,List.all_eq_true]at h;exact j_7 s p (h.2 _ (NY hj)) h2
mutual
theorem j_8 (s:b5):∀ (n:aX),(∀p k,l9 n p=some k ->(eV s k).1=0) ->kZ s n=true
 | .mk l ps t ks,h=>by
   rw [kZ,decide_eq_true (h [] _ rfl),Bool.true_and];exact g_r s ks fun k hk p x ha=>by
    obtain⟨j,hj,rfl⟩:=List.mem_iff_getElem.1 hk;refine h ((j:Int)::p) x ?_;unfold l9;rw [if_pos P2];simp only [aY,O0];rw [NV hj];exact ha
theorem g_r (s:b5):∀ (ks:List aX),(∀k∈ks,∀p x,l9 k p=some x ->(eV s x).1=0) ->a_x s ks=true
 | [],h=>by rw [a_x]
 | k::ks,h=>by
   rw [a_x,j_8 s k (h k P6),g_r s ks (fun k hk=>h k (List.mem_cons_of_mem _ hk))];rfl
end
theorem g_s {s:b5} {n:aX} {L:List (List Int)} {picks:List Int} {A:MT} {m:Nat} {ops:List fZ} (hs:eJ s=0) (hE:dQ n=0) (hL:∀q,dX n q=true ->q∈L) (h:wX s picks 0 (MT.on L n) A m ops):
 kZ s A.bare=true/\dQ A.bare=0/\b8 A.bare=b8 n:=by
 obtain⟨h1,h2,h3⟩:=n_g hs h u_c (i_S L n) (p_E hL);rw [mZ]at h3;refine⟨j_8 s _ fun p k ha=> ?_,h2,h3⟩;rw [MT.at_bare]at ha;cases hx:A.at_ p with
 | none=>rw [hx]at ha;cases ha
 | some x=>
   rw [hx]at ha;rw [<- Option.some.inj ha];exact h1 p x hx
theorem k_N {L:List (List Int)} (h:pK L) {p:List Int} (hp:p∈L):(L.filter fun q=> !decide (p=q)).length+1=L.length:=by
 have hn:L.Nodup:=List.Pairwise.imp (fun {a b} h e=>by subst e;exact LK h) h;have h1:(L.filter fun q=> !decide (p=q))=L.erase p:=by
  rw [hn.erase_eq_filter];refine List.filter_congr fun q _=> ?_
  by_cases e:p=q
  . subst e;simp
  simp [e,Ne.symm e]
 rw [h1,List.length_erase_of_mem hp];have:=List.length_pos_of_mem hp
 omega
theorem L5 {s:b5} {picks:List Int} {k m:Nat} {T A:MT} {ops:List fZ} (h:wX s picks k T A m ops) (hv:kZ s T.bare=true):A.bare=T.bare/\ops= []/\∀L,wV L T ->m=k+L.length:=by
 induction h with
 | done h=>
   refine⟨rfl,rfl,fun L hL=> ?_⟩;rw [g_h hL h];rfl
 | step hL hp r ih=>
   rename_i k m T A ops L p
   have a:=yX hL (List.mem_of_getElem? hp);obtain⟨kk,ha,hm⟩:=(MT.mk_at p T).1 a.1;have hf:(eV s kk.bare).1=0:=j_7 s p hv QK;have hb:=f_i ha hf;obtain⟨h1,h2,h3⟩:=ih (by rw [hb];exact hv);refine⟨h1.trans hb,by rw [MK ha hf,h2];rfl,fun L' b=> ?_⟩;have e:=J2 hL b;subst e;have h4:=h3 _ (f_4 hL ha hf)
   have h5:=k_N hL.1 ((hL.2 p).2 a.1)
   omega
theorem k_O (L:List (List Int)) (n:aX):(oY (L.filter (dX n))).length <= n.wt:=by
 have hs:=j8 (L.filter (dX n));have he:∀q∈oY (L.filter (dX n)),dX n q=true:=fun q hq=>(List.mem_filter.1 (m4.1 hq)).2
 have e:oY (L.filter (dX n))=oY ((xQ n).filter (fun q=>decide (q∈oY (L.filter (dX n))))):=sK hs (j8 _) fun q=>by
  rw [m4 (l:=(xQ n).filter _),List.mem_filter];exact⟨fun h=>⟨EY (he q h),by simpa using h⟩,fun h=>by simpa using h.2⟩
 have h1:(oY (L.filter (dX n))).length <= (xQ n).length:=by
  rw [e];exact aJ (a_g _) (List.length_filter_le _ _)
 exact aJ h1 (uK _ n [])
theorem p_F {s:b5} {n:aX} (hs:eJ s=0) (hE:dQ n=0) (hv:kZ s n=true) (hw:n.wt <= 399000) (L:List (List Int)) (picks:List Int):a_w s n L picks:=by
 obtain⟨A,m,ops,hr, -, -⟩:=a_u hs picks (muT s (MT.on L n)) 0 (MT.on L n) (a8) u_c (i_S L n);obtain⟨h1,h2,h3⟩:=L5 hr (by rw [mZ];exact hv);have h4:=h3 _ (h_i L n);have h5:=k_O L n;exact⟨A,m,ops,hr,by rw [h2];simp [lK];omega,by rw [h2];simp,by omega⟩
theorem r_d {s:b5} {picks:List Int} (hs:eJ s=0):∀ (c:Nat) {k m:Nat} {T A:MT} {ops:List fZ} {L:List (List Int)},m <= k+c ->N2 s picks k T A m ops L ->A.bare.wt <= 399000:=by
 intro c;induction c with
 | zero=>
   intro k m T A ops L hm h;by_cases hr:m5 L= []
   . have:=h.wt;rw [(h.stop hr).1];omega
   obtain⟨p,kk,X,R,l,ops',T',hl⟩:=h.go hs hr;have:=c_P hl.next.run
   omega
 | succ c ih=>
   intro k m T A ops L hm h;by_cases hr:m5 L= []
   . have:=h.wt;rw [(h.stop hr).1];omega
   obtain⟨p,kk,X,R,l,ops',T',hl⟩:=h.go hs hr;exact ih P2 hl.next
theorem n_h {s:b5} {n:aX} {L:List (List Int)} {picks:List Int} {A:MT} {m:Nat} {ops:List fZ} (hs:eJ s=0) (hE:dQ n=0) (hl:b8 n=false) (h:wX s picks 0 (MT.on L n) A m ops) (hok:a_w s n L picks):A.bare.wt <= 399000:=by
 obtain⟨A',m',ops',h1,h2, -⟩:=hok;obtain⟨rfl,rfl,rfl⟩:=c_j h1 h;exact r_d hs m' (show m' <= 0+m' by omega) (b_q hE hl h1 h2)
def k_P (s:b5) (ks:List aX) (k:Nat):Bool:=match ks[k]? with | some q=> !kZ s q | none=>false
theorem r_f (s:b5) (ks:List aX):decide (0 <= uZ (k_P s ks) ks.length)= !ks.all (kZ s):=by
 rcases jV (k_P s ks) ks.length with⟨k,hk,h1, -,he⟩ | ⟨h1,he⟩
 . rw [he]
   unfold k_P at h1;simp only [NV hk]at h1;have:ks.all (kZ s)=false:=by
    rw [List.all_eq_false];exact⟨ks[k],NY hk,by simpa using h1⟩
   rw [this];simp
 rw [he];have:ks.all (kZ s)=true:=by
  rw [List.all_eq_true];intro r hr;obtain⟨k,hk,rfl⟩:=List.mem_iff_getElem.1 hr;have:=h1 k hk;unfold k_P at this;simp only [NV hk]at this;simpa using this
 rw [this];rfl
theorem s_I (ks:List aX) (a:Option Addr) (cap cb:Nat) (caps:Array Value) (pred:Nat ->Bool) (W:World) (hn:ks.length <= 100000000) (d:∀args w,(callFunc cb args).run Tryz.prog w= .ok (.enter cb args) w)
 (H:∀ (k:Nat) (W':World),k < ks.length ->Below W W W' ->∃b off c0 c1 c2 c3,a=some ⟨b,off,none⟩/\W'.cell? ⟨b,off+k * 4,none⟩=some c0/\W'.cell? ⟨b,off+k * 4+1,none⟩=some c1/\W'.cell? ⟨b,off+k * 4+2,none⟩=some c2/\W'.cell? ⟨b,off+k * 4+3,none⟩=some c3/\
   Calls Tryz.prog cb (#[.agg #[c0,c1,c2,c3]] ++ caps) W' fun e w'=>e= .returned (pred k)/\Below W' W' w'):
 Calls Tryz.prog 84 #[(a,ks.length,cap), .func (.func cb) #[] caps] W fun e w'=>e= .returned (decide (0 <= uZ pred ks.length))/\Below W W w':=by
 have HI:=a6 (h_s ks.length a cap cb caps pred W hn d H);generalize uZ pred ks.length=z at HI;clear H;go_enter Tryz.func84,Tryz.ntmps84;go_wp2_with fail;refine HI.o.mono ?_;rintro e w1 ⟨rfl,c⟩;have Hb:=a6 c
 clear c HI;go_wp2_with fail;go_ret;exact⟨rfl,Hb.o⟩
theorem s_J {sn en:Nat} {Y1 Y3 Y5 Y7:ByteArray} {Y2 Y4 Y6 Y8:Int} (s:b5) (q:aX) (U:Nat) (a ea:Option Addr) (c ec:Nat) (o0 o1 o2 o3 o4 o5:Int) (l:Bool) (b1 b2 b3:Option Addr) (m1 m2 m3 d1 d2 d3:Nat) (W:World) (hU:At W U [(a,sn,c),Y1,Y2,Y3,Y4,Y5,(ea,en,ec),Y6,Y7,o0,o1,o2,o3,o4,o5,Y8] 30)
 (HV:∀W',Below W W W' ->Calls Tryz.prog 26 #[.agg #[(a,sn,c),Y1,Y2,Y3,Y4,Y5,(ea,en,ec),Y6,Y7,o0,o1,o2,o3,o4,o5,Y8], .agg #[l,(b1,m1,d1),(b2,m2,d2),(b3,m3,d3)]] W' fun e w'=>e= .returned (kZ s q)/\Below W' W' w'):
 Calls Tryz.prog 85 #[.agg #[l,(b1,m1,d1),(b2,m2,d2),(b3,m3,d3)], .pointer U] W fun e w'=>e= .returned (!kZ s q)/\Below W W w':=by
 obtain⟨w0,b⟩:∃w0,w0=W.alloc (Obj.cells #[l,(b1,m1,d1),(b2,m2,d2),(b3,m3,d3)] 35):=⟨_,rfl⟩;have d:Below W W w0:=t_L
 have HU:=a6 (hU.kept d);obtain⟨⟨y0,y1,y2,y3⟩, -,yl⟩:=(show At w0 W [l,(b1,m1,d1),(b2,m2,d2),(b3,m3,d3)] 35 by rw [b];exact At.fresh _ _ _).f4;have HC:=a6 (HV w0 d);have g:=a6 d;have h:=a6 b
 clear b d hU HV;generalize kZ s q=z at HC⊢
 go_enter Tryz.func85,Tryz.ntmps85
 go_upto_region 1 with fail;rw [<- h.o];clear h;go_wp2_with (refine bZ rfl _ _ rfl U #[(a,sn,c),Y1,Y2,Y3,Y4,Y5,(ea,en,ec),Y6,Y7,o0,o1,o2,o3,o4,o5,Y8] rfl HU.o _ Tryz.underlying30 rfl P3 ?_);refine HC.o.mono ?_;rintro e w1 ⟨rfl,f⟩;have i:=a6 (g.o.trans (f.mono g.o.size))
 clear f HC y0 y1 y2 y3 yl;go_wp2_with fail;go_ret;exact⟨bJ P6,i.o⟩
theorem j_9 {sn en:Nat} {Y1 Y3 Y5 Y7:ByteArray} {Y2 Y4 Y6 Y8:Int} (s:b5) (a ea:Option Addr) (c ec:Nat) (o0 o1 o2 o3 o4 o5:Int) (hs:s.wt <= 1048576):∀ (m:Nat) (n:aX) (v:Value) (W:World),n.wt <= m ->n.wt <= 1048576 ->SchemaV W W s (.agg #[(a,sn,c),Y1,Y2,Y3,Y4,Y5,(ea,en,ec),Y6,Y7,o0,o1,o2,o3,o4,o5,Y8]) ->bY W W n v ->
 Calls Tryz.prog 26 #[.agg #[(a,sn,c),Y1,Y2,Y3,Y4,Y5,(ea,en,ec),Y6,Y7,o0,o1,o2,o3,o4,o5,Y8],v] W fun e w'=>e= .returned (kZ s n)/\Below W W w':=by
 intro m;induction m with
 | zero=>intro n v W hm;have:=J4 n;omega
 | succ m ih=>
 intro n v W hm hn hu hv;obtain⟨l,ps,t,ks⟩:=n;have G:=hv;obtain⟨ap,cp,at_,ct,ak,ck,css,rfl, -, -,hk,u⟩:=G.open;have x:ks.length <= 100000000:=by have:=i7 ks;simp only [aX.wt]at hn;omega
 have y:∀q∈ks,q.wt <= 1048576:=fun q hq=>by have:=jJ hq;simp only [aX.wt]at hn;omega
 have z:∀q∈ks,q.wt <= m:=fun q hq=>by have:=jJ hq;simp only [aX.wt]at hm;omega
 obtain⟨w0,h⟩:∃w0,w0=(W.alloc (Obj.cells #[(a,sn,c),Y1,Y2,Y3,Y4,Y5,(ea,en,ec),Y6,Y7,o0,o1,o2,o3,o4,o5,Y8] 30)).alloc (Obj.cells #[l,(ap,ps.length,cp),(at_,t.length,ct),(ak,ks.length,ck)] 35):=⟨_,rfl⟩;have d:Below W W w0:=by rw [h];exact g8 _ _ _
 have A:=a6 (show At w0 W [(a,sn,c),Y1,Y2,Y3,Y4,Y5,(ea,en,ec),Y6,Y7,o0,o1,o2,o3,o4,o5,Y8] 30 by rw [h];exact(At.fresh W _ _).alloc _);have B:=a6 (show At w0 (W+1) [l,(ap,ps.length,cp),(at_,t.length,ct),(ak,ks.length,ck)] 35 by rw [h];exact At.second W _ _ _);have HF:=a6 (j_O s _ (.mk l ps t ks) _ w0 P2 P2 (hu.keep d d.size) (hv.keep d d.size));have HK:=a6 (fun(w1:World) (hb:Below w0 w0 w1)=>s_I ks ak ck 85 #[.pointer W] (k_P s ks) w1 x P5 fun k W' i H=>by
  have C:=b6 hb H;have g:=d.trans (C.mono d.size);obtain⟨b,off,l',a1,n1,c1,a2,n2,c2,a3,n3,c3,ha, -,I,g0,g1,g2,g3⟩:=(hk.keep g g.size).kid_at (eX.keep g g.size _ _ u) k i;refine⟨b,off,_,_,_,_,ha,g0,g1,g2,g3, ?_⟩;have e:k_P s ks k= !kZ s ks[k]:=by unfold k_P;rw [NV i]
  rw [e];exact s_J s ks[k] W a ea c ec o0 o1 o2 o3 o4 o5 l' a1 a2 a3 n1 n2 n3 c1 c2 c3 W' (A.o.kept C) (fun W2 j=>ih ks[k] _ W2 (z _ (NY i)) (y _ (NY i)) (hu.keep (b6 g (j.mono (by have:=g.size;omega))) (by have:=g.size;have:=j.size;omega))
   ⟨_,rfl,dY.keep j j.size _ _ I⟩))
 rw [r_f]at HK;have o:=c_R s (.mk l ps t ks)
 simp only [aY]at o;obtain⟨V,hV⟩:∃V,V=ks.all (kZ s):=⟨_,rfl⟩;rw [<- hV]at HK o;rw [o];generalize eV s (.mk l ps t ks)=F at HF⊢;have p:=a6 d;have D:=a6 h
 have M:=c_k;obtain⟨⟨y0,y1,y2,y3⟩, -,yl⟩:=B.o.f4;clear h d hu hv hk u x z y o hV ih hm hn;go_enter Tryz.func26,Tryz.ntmps26;go_upto_region 1 with fail;rw [<- D.o];clear D;go_wp2_with (refine bZ rfl _ _ rfl W.heap.size #[(a,sn,c),Y1,Y2,Y3,Y4,Y5,(ea,en,ec),Y6,Y7,o0,o1,o2,o3,o4,o5,Y8] rfl A.o _ Tryz.underlying30 rfl P3 ?_);refine HF.o.mono ?_;rintro e w1 ⟨rfl,f⟩;have r:=a6 f
 clear f HF y0 y1 y2 y3 yl;by_cases hz:F.1=0
 . have J:(F.1 != 0)=false:=SQ
   have E:=a6 (HK.o w1 r.o);have HR:=a6 (show (decide (F.1=0) && V)=V by rw [decide_eq_true hz,Bool.true_and]);obtain⟨⟨y0,y1,y2,y3⟩, -,yl⟩:=(B.o.kept r.o).f4;have N:∀ (fn:Fn) (first cap:Array Value) (w:World),(Instr.makeFunc fn first cap).run Tryz.prog w= .ok (.func fn first cap) w:=fun _ _ _ _=>rfl
   clear HK hz;go_wp2_with fail;refine E.o.mono ?_;rintro e w2 ⟨rfl,f⟩;have K:=a6 (p.o.trans ((b6 r.o f).mono p.o.size))
   clear f E y0 y1 y2 y3 yl;go_wp2_with fail;go_ret;exact⟨bJ (by rw [HR.o]),K.o⟩
 have J:(F.1 != 0)=true:=SQ
 have HR:=a6 (show (decide (F.1=0) && V)=false by rw [O3 hz,Bool.false_and]);have L:=a6 (p.o.trans (r.o.mono p.o.size));clear HK hz;go_wp2_with fail;go_ret;exact⟨bJ HR.o.symm,L.o⟩
theorem JK {s:b5} {n:aX} {L:List (List Int)} {m:Nat} (h:J3 s n L m=true):(∀p∈L,p.length <= 40)/\J7 (s.rules ++ [s.els])=true/\F4 n 50=true:=by
 unfold J3 at h;simp only [Bool.and_eq_true,List.all_eq_true,decide_eq_true_eq]at h;exact⟨h.1,h.2.1,h.2.2.1⟩
def s_K (W:World) (s:b5) (n:aX) (E:Int) (x:List Value) (w':World):Prop:=
 Below W W w'/\E=o8 s n/\(o8 s n≠0/\x= [.bool false, .slice none 0 0, .slice none 0 0, .slice none 0 0]∨o8 s n=0/\∃ (A:MT) (m:Nat) (ops:List fZ),wX s [] 0 (MT.on (tX n) n) A m ops/\NodeQ w' (fun b=>W.heap.size <= b) A.bare x)
theorem p_w.alike {W w':World} {s:b5} {n:aX} {e:Ending} (h:p_w W s n e w'):
 ∃ (E:Int) (x0:Bool) (x1 x2 x3:Option Addr) (y1 y2 y3 z1 z2 z3:Nat),e= .returned (.tuple #[.agg #[x0,(x1,y1,z1),(x2,y2,z2),(x3,y3,z3)],E])/\s_K W s n E [x0,(x1,y1,z1),(x2,y2,z2),(x3,y3,z3)] w':=by
 obtain⟨hb,⟨h1,rfl⟩ | ⟨h1,A,m,ops,cs,h2,rfl,h4⟩⟩:=h
 . exact⟨_,false,none,none,none,0,0,0,0,0,0,rfl,hb,rfl, .inl ⟨h1,rfl⟩⟩
 obtain⟨x0,x1,y1,z1,x2,y2,z2,x3,y3,z3,rfl⟩:=h4.form;exact⟨0,x0,x1,x2,x3,y1,y2,y3,z1,z2,z3,rfl,hb,h1.symm, .inr ⟨h1,A,m,ops,h2,h4⟩⟩
theorem f_k (s:b5) (n:aX) (u v:Value) (vx:Value) (xs:List PX) (picks:List Int) (ka:Option Addr) (kc:Nat) (W:World) (hs:s.wt <= 1048576) (hn:n.wt <= 1048576) (j9:xs.length <= 1048576) (K0:picks.length <= 1048576) (hu:SchemaV W W s u) (hv:bY W W n v) (hx:u_7 W W vx xs)
 (H4:RowA W W 1 ka picks.length kc (picks.map (Value.int .i64))):
 Calls Tryz.prog 6 #[u,v,vx,(ka,picks.length,kc)] W (fun e w'=>e= .returned true/\Below W W w'):=by
 have H5:=hu;have K1:=hv
 obtain⟨csn,rfl,hc⟩:=K1;obtain⟨l,b1,m1,d1,b2,m2,d2,b3,m3,d3,rfl⟩:=hc.form;obtain⟨a,c,ea,ec,sn,en,Y1,Y2,Y3,Y4,Y5,Y6,Y7,Y8,o0,o1,o2,o3,o4,o5,rfl⟩:=SchemaV.shape H5;obtain⟨xa,xc,rfl, -⟩:=hx.row;obtain⟨w0,z⟩:∃w0,w0=(W.alloc (Obj.cells #[(a,sn,c),Y1,Y2,Y3,Y4,Y5,(ea,en,ec),Y6,Y7,o0,o1,o2,o3,o4,o5,Y8] 30)).alloc (Obj.cells #[l,(b1,m1,d1),(b2,m2,d2),(b3,m3,d3)] 35):=⟨_,rfl⟩;have d:Below W W w0:=by rw [z];exact g8 _ _ _
 have HA:=a6 (show At w0 W [(a,sn,c),Y1,Y2,Y3,Y4,Y5,(ea,en,ec),Y6,Y7,o0,o1,o2,o3,o4,o5,Y8] 30 by rw [z];exact(At.fresh W _ _).alloc _);have HN:=a6 (show At w0 (W+1) [l,(b1,m1,d1),(b2,m2,d2),(b3,m3,d3)] 35 by rw [z];exact At.second W _ _ _);have HF:=a6 (fun(w':World) (hb:Below w0 w0 w')=>h_k s n _ _ _ xs ka picks.length kc w' P2 P2 P2 P2 (hu.keep (d.trans (hb.mono d.size)) (d.trans (hb.mono d.size)).size) (hv.keep (d.trans (hb.mono d.size)) (d.trans (hb.mono d.size)).size) (hx.keep (d.trans (hb.mono d.size)) (d.trans (hb.mono d.size)).size));have HL:=a6 (f_f w0);have i:=a6 d;have N:=a6 z
 cases F:J3 s n (iV xs) picks.length with
 | false=>
   rw [F]at HF;clear hu hv H5 hc hs hn d z hx F H4;go_enter Tryz.func6,Tryz.ntmps6;go_upto_region 1 with fail;rw [<- N.o];clear N;go_wp2_with fail;refine HL.o.mono ?_;rintro e w1 ⟨rfl,b⟩;have H6:=a6 b
   have O:=a6 (HA.o.kept b);obtain⟨⟨y0,y1,y2,y3⟩, -,yl⟩:=(HN.o.kept b).f4;have G:=a6 (HF.o w1 b);clear b HL HF;go_wp2_with (refine bZ rfl _ _ rfl W.heap.size #[(a,sn,c),Y1,Y2,Y3,Y4,Y5,(ea,en,ec),Y6,Y7,o0,o1,o2,o3,o4,o5,Y8] rfl O.o _ Tryz.underlying30 rfl P3 ?_);refine G.o.mono ?_;rintro e w2 ⟨rfl,b⟩;have B:=a6 (i.o.trans ((b6 H6.o b).mono i.o.size))
   clear b G y0 y1 y2 y3 yl;go_wp2_with fail;go_ret;exact⟨rfl,B.o⟩
 | true =>
   rw [F]at HF;obtain⟨H0,H7,P⟩:=JK F;have h6:∀x∈xs,x.1.length <= 100000000:=fun x hx=>by have:=H0 x.1 (List.mem_map.2 ⟨x,hx,rfl⟩);omega
   have K6:=e_s P;have H:o8 s n=0 ->∃ (A:MT) (m:Nat) (ops:List fZ),wX s picks 0 (MT.on (iV xs) n) A m ops/\m <= muT s (MT.on (iV xs) n)/\n.wt+lK ops <= 399000/\ops.length <= 4000000000/\m <= 1000000000:=fun h=>L3 (eY h).1 (eY h).2.1 (eY h).2.2 (iV xs) picks (G1 hs H7 P (eY h).1 (iV xs))
   have K7:=a6 H;have h7:o8 s n=0 ->a_w s n (iV xs) picks:=fun h=>by obtain⟨A,m,ops,h1, -,h2⟩:=H h;exact⟨A,m,ops,h1,h2⟩
   have H1:o8 s n=0 ->a_w s n (tX n) []:=fun h=>by obtain⟨A,m,ops,h1, -,h2⟩:=L3 (eY h).1 (eY h).2.1 (eY h).2.2 (tX n) [] (G1 hs H7 P (eY h).1 (tX n));exact⟨A,m,ops,h1,h2⟩
   have h8:=a6 (fun(w':World) (hb:Below W W w')=>h_j s n a ea c ec o0 o1 o2 o3 o4 o5 l b1 b2 b3 m1 m2 m3 d1 d2 d3 w' hs P2 (hu.keep hb hb.size) (hv.keep hb hb.size) H1);have Q:=a6 (fun(w':World) (hb:Below W W w')=>j_9 s a ea c ec o0 o1 o2 o3 o4 o5 hs n.wt n _ w' (a8) hn (hu.keep hb hb.size) (hv.keep hb hb.size));have H8:=a6 (fun(w':World) (hb:Below W W w')=>hv.keep hb hb.size);have h9:=a6 (fun(w':World) (hb:Below W W w')=>b_r s n a ea c ec o0 o1 o2 o3 o4 o5 l b1 b2 b3 m1 m2 m3 d1 d2 d3 xa xc xs picks ka kc w' hs P2 (hu.keep hb hb.size) (hv.keep hb hb.size) (hx.keep hb hb.size) j9 h6 (H4.keep hb hb.size) K0 h7);obtain⟨V,hV⟩:∃V,V=kZ s n:=⟨_,rfl⟩;rw [<- hV]at Q;have HV:=a6 hV
   obtain⟨E0,j⟩:∃E0,E0=o8 s n:=⟨_,rfl⟩;have H9:=a6 j;clear hu hv H5 hc hs hn d z hx F H4 H0 h6 h7 H H1 H7 P hV j;go_enter Tryz.func6,Tryz.ntmps6;go_upto_region 1 with fail;rw [<- N.o];clear N;go_wp2_with fail;refine HL.o.mono ?_;rintro e w1 ⟨rfl,b⟩;have H6:=a6 b
   have O:=a6 (HA.o.kept b);obtain⟨⟨y0,y1,y2,y3⟩, -,yl⟩:=(HN.o.kept b).f4;have G:=a6 (HF.o w1 b);clear b HL HF;go_wp2_with (refine bZ rfl _ _ rfl W.heap.size #[(a,sn,c),Y1,Y2,Y3,Y4,Y5,(ea,en,ec),Y6,Y7,o0,o1,o2,o3,o4,o5,Y8] rfl O.o _ Tryz.underlying30 rfl P3 ?_);refine G.o.mono ?_;rintro e w2 ⟨rfl,b⟩;have B:=a6 (b6 H6.o b)
   have J0:=a6 (HA.o.kept B.o);clear y0 y1 y2 y3 yl;obtain⟨⟨y0,y1,y2,y3⟩, -,yl⟩:=(HN.o.kept B.o).f4;have J1:=a6 (h8.o w2 (i.o.trans (B.o.mono i.o.size)));clear b G O h8;go_wp2_with (refine bZ rfl _ _ rfl W.heap.size #[(a,sn,c),Y1,Y2,Y3,Y4,Y5,(ea,en,ec),Y6,Y7,o0,o1,o2,o3,o4,o5,Y8] rfl J0.o _ Tryz.underlying30 rfl P3 ?_);refine J1.o.mono ?_;intro e w3 J2;obtain⟨E,p0,p1,p2,p3,h1,h2,h3,g1,g2,g3,rfl,b,hE,I⟩:=J2.alike;have e0:E=E0:=by rw [H9.o];exact hE
   subst e0;have J4:=a6 (b6 B.o b)
   have h0:=a6 I;clear b J1 J0 y0 y1 y2 y3 yl hE I J2;go_upto_region 6 with fail
   obtain⟨w4,S⟩:∃w4,w4=w3.alloc (Obj.cells #[p0,(p1,h1,g1),(p2,h2,g2),(p3,h3,g3)] 35):=⟨_,rfl⟩;rw [<- S];have J:Below w3 w3 w4:=by rw [S];exact b7 _ _
   have J5:=a6 (show At w4 w3 [p0,(p1,h1,g1),(p2,h2,g2),(p3,h3,g3)] 35 by rw [S];exact At.fresh _ _ _);have K:=a6 (b6 J4.o J);have H2:=a6 J;have J6:=a6 (HA.o.kept K.o);obtain⟨⟨y0,y1,y2,y3⟩, -,yl⟩:=(HN.o.kept K.o).f4;have J7:=a6 (h9.o w4 (i.o.trans (K.o.mono i.o.size)));clear S J h9;go_wp2_with (refine bZ rfl _ _ rfl W.heap.size #[(a,sn,c),Y1,Y2,Y3,Y4,Y5,(ea,en,ec),Y6,Y7,o0,o1,o2,o3,o4,o5,Y8] rfl J6.o _ Tryz.underlying30 rfl P3 ?_);refine J7.o.mono ?_;intro e w5 J8;obtain⟨E',x0,x1,x2,x3,na,y1',y2',y3',z1,z2,z3,k,nn,nc,rfl,b,hE,I⟩:=c_Q.alike J8;have e0:E'=E:=by rw [H9.o];exact hE
   subst e0;have L:=a6 b
   have J9:=a6 (b6 K.o b);have h4:=a6 I;clear b J7 J6 y0 y1 y2 y3 yl hE I J8;go_upto_region 7 with fail
   obtain⟨w6,T⟩:∃w6,w6=w5.alloc (Obj.cells #[x0,(x1,y1',z1),(x2,y2',z2),(x3,y3',z3)] 35):=⟨_,rfl⟩;rw [<- T];have y:Below w5 w5 w6:=by rw [T];exact b7 _ _
   have j0:=a6 (show At w6 w5 [x0,(x1,y1',z1),(x2,y2',z2),(x3,y3',z3)] 35 by rw [T];exact At.fresh _ _ _);have C:=a6 (b6 J9.o y);have M:=a6 y;have K2:=a6 (J5.o.kept (b6 L.o y));have f:=a6 (i.o.trans (C.o.mono i.o.size));clear T y J5;by_cases hz:E'=0
   . subst hz
     have j:o8 s n=0:=H9.o.symm;rcases h0.o with⟨h, -⟩ | ⟨-,A,ma,opsA,U,j4⟩
     . exact absurd j h
     rcases h4.o with⟨h, -⟩ | ⟨-,A',opsB,na',nc',X,K3,j5⟩
     . exact absurd j h
     injection K3 with _ e2 _
     subst e2;have j6:=a6 (fun(w':World) (hb:Below w6 w6 w')=>(show bY w' w' A.bare (.agg #[p0,(p1,h1,g1),(p2,h2,g2),(p3,h3,g3)])from⟨_,rfl,NodeQ.node _ _ (gY j4 (b6 H2.o (b6 L.o (b6 M.o hb))))⟩))
     have j7:=a6 (fun(w':World) (hb:Below w6 w6 w')=>(show bY w' w' A'.bare (.agg #[x0,(x1,y1',z1),(x2,y2',z2),(x3,y3',z3)])from⟨_,rfl,NodeQ.node _ _ (gY j5 (b6 M.o hb))⟩));have Y:=a6 (fun(w':World) (hb:Below w6 w6 w')=>H8.o w' (f.o.trans (hb.mono f.o.size)));have Z:=a6 (fun(m1 m2:aX) (u1 u2:Value) (w':World) (k1:bY w' w' m1 u1) (k2:bY w' w' m2 u2)=>d_Z m1.wt m1 m2 u1 u2 w' (a8) k1 k2);have j8:=a6 (HA.o.kept C.o);have H3:=a6 (Q.o w6 f.o);obtain⟨⟨y0,y1,y2,y3⟩, -,yl⟩:=(HN.o.kept C.o).f4;clear Q H8 h0 h4 j4 j5 H2 L M J4 K J9;go_wp2_with (refine bZ rfl _ _ rfl W.heap.size #[(a,sn,c),Y1,Y2,Y3,Y4,Y5,(ea,en,ec),Y6,Y7,o0,o1,o2,o3,o4,o5,Y8] rfl j8.o _ Tryz.underlying30 rfl P3 ?_);refine H3.o.mono ?_;rintro e w7 ⟨rfl,b⟩;have o:=a6 b
     clear b H3 j8 y0 y1 y2 y3 yl;obtain⟨⟨y0,y1,y2,y3⟩, -,yl⟩:=(HN.o.kept (b6 C.o o.o)).f4;obtain⟨⟨i0,i1,i2,i3⟩, -,il⟩:=(K2.o.kept o.o).f4
     cases V with
     | true=>
       have D:kZ s n=true:=HV.o.symm;obtain⟨j1, -, -⟩:=L5 U (by rw [mZ];exact D);obtain⟨j2,j3, -⟩:=L5 X (by rw [mZ];exact D);rw [mZ]at j1 j2;subst j3;have t:=Z.o A.bare n _ _ w7 (j6.o w7 o.o) (Y.o w7 o.o)
       rw [j1,oQ]at t;have p:=a6 t
       clear t j1 D U X;go_wp2_with fail;refine p.o.mono ?_;rintro e w8 ⟨rfl,b⟩;have g:=a6 (b6 o.o b)
       clear b p y0 y1 y2 y3 yl i0 i1 i2 i3 il;obtain⟨⟨y0,y1,y2,y3⟩, -,yl⟩:=(HN.o.kept (b6 C.o g.o)).f4;obtain⟨⟨i0,i1,i2,i3⟩, -,il⟩:=(j0.o.kept g.o).f4;have w:=Z.o A'.bare n _ _ w8 (j7.o w8 g.o) (Y.o w8 g.o);rw [j2,oQ]at w;have r:=a6 w
       clear w j2;go_wp2_with fail;refine r.o.mono ?_;rintro e w9 ⟨rfl,b⟩;have h5:=a6 (f.o.trans ((b6 g.o b).mono f.o.size))
       clear b r y0 y1 y2 y3 yl i0 i1 i2 i3 il;go_wp2_with fail;go_ret;exact⟨rfl,h5.o⟩
     | false=>
       have D:kZ s n=false:=HV.o.symm;obtain⟨v1, -, -⟩:=g_s (eY j).1 (eY j).2.1 (fun q hq=>m4.2 (List.mem_filter.2 ⟨EY hq,hq⟩)) U;have j1:rK A.bare n=false:=by
        cases h:rK A.bare n with
        | false=>rfl
        | true=>rw [d_W _ _ h,D]at v1;cases v1
       obtain⟨o1,o2⟩:=n_f (eY j).1 X;rw [mZ]at o1 o2;have j2:decide (0 < opsB.length)= !rK A'.bare n:=by
        by_cases ho:opsB= []
        . rw [o1 ho,oQ,ho];rfl
        have K4:=List.length_pos_iff.2 ho;have:rK A'.bare n=false:=by
         cases h:rK A'.bare n with
         | false=>rfl
         | true=>exact absurd (d_W _ _ h) (o2 ho)
        rw [this];simpa using K4
       have t:=Z.o A.bare n _ _ w7 (j6.o w7 o.o) (Y.o w7 o.o);rw [j1]at t;have p:=a6 t
       obtain⟨R,hR⟩:∃R,R=rK A'.bare n:=⟨_,rfl⟩;rw [<- hR]at j2;have HJ:=a6 j2
       have K5:=a6 hR;clear t j1 v1 o1 o2 D U X j2 hR;go_wp2_with fail;refine p.o.mono ?_;rintro e w8 ⟨rfl,b⟩;have g:=a6 (b6 o.o b)
       clear b p y0 y1 y2 y3 yl i0 i1 i2 i3 il;obtain⟨⟨y0,y1,y2,y3⟩, -,yl⟩:=(HN.o.kept (b6 C.o g.o)).f4;obtain⟨⟨i0,i1,i2,i3⟩, -,il⟩:=(j0.o.kept g.o).f4;have w:=Z.o A'.bare n _ _ w8 (j7.o w8 g.o) (Y.o w8 g.o);rw [<- K5.o]at w;have r:=a6 w
       clear w;go_wp2_with fail;refine r.o.mono ?_;rintro e w9 ⟨rfl,b⟩;have h5:=a6 (f.o.trans ((b6 g.o b).mono f.o.size))
       clear b r y0 y1 y2 y3 yl i0 i1 i2 i3 il;go_wp2_with fail;go_ret;exact⟨bJ (by simp [HJ.o]),h5.o⟩
   have K8:(E' != 0)=true:=SQ
   clear h0 h4 Q H8;go_wp2_with fail;go_ret;exact⟨bJ P6,f.o⟩
theorem g_t {w:World} {B:Nat}:u_7 w B () []:=⟨⟨none,0,rfl,RowA.empty _ _ _⟩,fun x hx=>by cases hx⟩
theorem f_m (s:b5) (n:aX) (u v:Value) (picks:List Int) (ka:Option Addr) (kc:Nat) (W:World) (hs:s.wt <= 1048576) (hn:n.wt <= 1048576) (K3:picks.length <= 1048576) (hu:SchemaV W W s u) (hv:bY W W n v)
 (Z:RowA W W 1 ka picks.length kc (picks.map (Value.int .i64))):
 Calls Tryz.prog 4 #[u,v,(ka,picks.length,kc)] W (fun e w'=>e= .returned true/\Below W W w'):=by
 have H0:=hu;have K4:=hv
 obtain⟨csn,rfl,hc⟩:=K4;obtain⟨l,b1,m1,d1,b2,m2,d2,b3,m3,d3,rfl⟩:=hc.form;obtain⟨a,c,ea,ec,sn,en,Y1,Y2,Y3,Y4,Y5,Y6,Y7,Y8,o0,o1,o2,o3,o4,o5,rfl⟩:=SchemaV.shape H0;obtain⟨w0,t⟩:∃w0,w0=(W.alloc (Obj.cells #[(a,sn,c),Y1,Y2,Y3,Y4,Y5,(ea,en,ec),Y6,Y7,o0,o1,o2,o3,o4,o5,Y8] 30)).alloc (Obj.cells #[l,(b1,m1,d1),(b2,m2,d2),(b3,m3,d3)] 35):=⟨_,rfl⟩;have i:Below W W w0:=by rw [t];exact g8 _ _ _
 have HA:=a6 (show At w0 W [(a,sn,c),Y1,Y2,Y3,Y4,Y5,(ea,en,ec),Y6,Y7,o0,o1,o2,o3,o4,o5,Y8] 30 by rw [t];exact(At.fresh W _ _).alloc _);have HN:=a6 (show At w0 (W+1) [l,(b1,m1,d1),(b2,m2,d2),(b3,m3,d3)] 35 by rw [t];exact At.second W _ _ _);have HF:=a6 (fun(w':World) (hb:Below w0 w0 w')=>h_k s n _ _ () [] ka picks.length kc w' P2 P2 P6 P2 (hu.keep (i.trans (hb.mono i.size)) (i.trans (hb.mono i.size)).size) (hv.keep (i.trans (hb.mono i.size)) (i.trans (hb.mono i.size)).size) g_t);have HL:=a6 (f_f w0);have w:=a6 i;have I:=a6 t
 cases C:J3 s n (iV []) picks.length with
 | false=>
   rw [C]at HF;clear hu hv H0 hc hs hn i t C Z;go_enter Tryz.func4,Tryz.ntmps4;go_upto_region 1 with fail;rw [<- I.o];clear I;go_wp2_with fail;refine HL.o.mono ?_;rintro e w1 ⟨rfl,d⟩;have H1:=a6 d
   have J:=a6 (HA.o.kept d);obtain⟨⟨y0,y1,y2,y3⟩, -,yl⟩:=(HN.o.kept d).f4;have D:=a6 (HF.o w1 d);clear d HL HF;go_wp2_with (refine bZ rfl _ _ rfl W.heap.size #[(a,sn,c),Y1,Y2,Y3,Y4,Y5,(ea,en,ec),Y6,Y7,o0,o1,o2,o3,o4,o5,Y8] rfl J.o _ Tryz.underlying30 rfl P3 ?_);refine D.o.mono ?_;rintro e w2 ⟨rfl,d⟩;have z:=a6 (w.o.trans ((b6 H1.o d).mono w.o.size))
   clear d D y0 y1 y2 y3 yl;go_wp2_with fail;go_ret;exact⟨rfl,z.o⟩
 | true =>
   rw [C]at HF;obtain⟨H8,H2,K⟩:=JK C;have Q1:=e_s K;have X:o8 s n=0 ->∃ (A:MT) (m:Nat) (ops:List fZ),wX s picks 0 (MT.on (tX n) n) A m ops/\m <= muT s (MT.on (tX n) n)/\n.wt+lK ops <= 399000/\ops.length <= 4000000000/\m <= 1000000000:=fun h=>L3 (eY h).1 (eY h).2.1 (eY h).2.2 (tX n) picks (G1 hs H2 K (eY h).1 (tX n))
   have H9:o8 s n=0 ->a_w s n (tX n) picks:=fun h=>by obtain⟨A,m,ops,h1, -,h2⟩:=X h;exact⟨A,m,ops,h1,h2⟩
   have Y:o8 s n=0 ->a_w s n (tX n) []:=fun h=>by obtain⟨A,m,ops,h1, -,h2⟩:=L3 (eY h).1 (eY h).2.1 (eY h).2.2 (tX n) [] (G1 hs H2 K (eY h).1 (tX n));exact⟨A,m,ops,h1,h2⟩
   have h0:=a6 (fun(w':World) (hb:Below W W w')=>h_j s n a ea c ec o0 o1 o2 o3 o4 o5 l b1 b2 b3 m1 m2 m3 d1 d2 d3 w' hs P2 (hu.keep hb hb.size) (hv.keep hb hb.size) Y);have K5:=a6 (fun(w':World) (hb:Below W W w')=>hv.keep hb hb.size);have H3:=c_n (n:=n);have h6:=a6 (fun(w':World) (hb:Below W W w')=>(show Calls Tryz.prog 23 #[.agg #[l,(b1,m1,d1),(b2,m2,d2),(b3,m3,d3)]] w' (C8 w' (tX n))from e_u n _ w' w' P2 (hv.keep hb hb.size) (a8)));have h7:=a6 (fun(w':World) (hb:Below W W w') (ya:Option Addr) (yc:Nat) (ys:List PX) (hx:u_7 w' w' (ya,ys.length,yc) ys) (hp:iV ys=tX n)=>(show Calls Tryz.prog 22 #[.agg #[(a,sn,c),Y1,Y2,Y3,Y4,Y5,(ea,en,ec),Y6,Y7,o0,o1,o2,o3,o4,o5,Y8], .agg #[l,(b1,m1,d1),(b2,m2,d2),(b3,m3,d3)],(ya,ys.length,yc),(ka,picks.length,kc)] w' (c_Q w' s n (tX n) picks)by
    have h:=b_r s n a ea c ec o0 o1 o2 o3 o4 o5 l b1 b2 b3 m1 m2 m3 d1 d2 d3 ya yc ys picks ka kc w' hs P2 (hu.keep hb hb.size) (hv.keep hb hb.size) hx
     (by have h1:=H3.1;rw [<- hp,iV,O6]at h1;omega) (fun x hx=>by have:=H3.2 x.1 UK;omega) (Z.keep hb hb.size) K3 (by rw [hp];exact H9)
    rw [hp]at h;exact h))
   obtain⟨E0,f⟩:∃E0,E0=o8 s n:=⟨_,rfl⟩;have L:=a6 f;clear hu hv H0 hc hs hn i t C Z H8 H9 X Y H2 K f H3;go_enter Tryz.func4,Tryz.ntmps4;go_upto_region 1 with fail;rw [<- I.o];clear I;go_wp2_with fail;refine HL.o.mono ?_;rintro e w1 ⟨rfl,d⟩;have H1:=a6 d
   have J:=a6 (HA.o.kept d);obtain⟨⟨y0,y1,y2,y3⟩, -,yl⟩:=(HN.o.kept d).f4;have D:=a6 (HF.o w1 d);clear d HL HF;go_wp2_with (refine bZ rfl _ _ rfl W.heap.size #[(a,sn,c),Y1,Y2,Y3,Y4,Y5,(ea,en,ec),Y6,Y7,o0,o1,o2,o3,o4,o5,Y8] rfl J.o _ Tryz.underlying30 rfl P3 ?_);refine D.o.mono ?_;rintro e w2 ⟨rfl,d⟩;have z:=a6 (b6 H1.o d)
   have h8:=a6 (HA.o.kept z.o);clear y0 y1 y2 y3 yl;obtain⟨⟨y0,y1,y2,y3⟩, -,yl⟩:=(HN.o.kept z.o).f4;have h9:=a6 (h0.o w2 (w.o.trans (z.o.mono w.o.size)));clear d D J h0;go_wp2_with (refine bZ rfl _ _ rfl W.heap.size #[(a,sn,c),Y1,Y2,Y3,Y4,Y5,(ea,en,ec),Y6,Y7,o0,o1,o2,o3,o4,o5,Y8] rfl h8.o _ Tryz.underlying30 rfl P3 ?_);refine h9.o.mono ?_;intro e w3 J0;obtain⟨E,p0,p1,p2,p3,h1,h2,h3,g1,g2,g3,rfl,d,hE,J1⟩:=J0.alike;have e0:E=E0:=by rw [L.o];exact hE
   subst e0;have K6:=a6 (b6 z.o d)
   have O:=a6 J1;clear d h9 h8 y0 y1 y2 y3 yl hE J1 J0;go_upto_region 6 with fail
   obtain⟨w4,Q⟩:∃w4,w4=w3.alloc (Obj.cells #[p0,(p1,h1,g1),(p2,h2,g2),(p3,h3,g3)] 35):=⟨_,rfl⟩;rw [<- Q];have F:Below w3 w3 w4:=by rw [Q];exact b7 _ _
   have J2:=a6 (show At w4 w3 [p0,(p1,h1,g1),(p2,h2,g2),(p3,h3,g3)] 35 by rw [Q];exact At.fresh _ _ _);have H4:=a6 (b6 K6.o F);have J4:=a6 F;have o:=a6 (w.o.trans (H4.o.mono w.o.size));have J5:=a6 (fun(w':World) (hb:Below w4 w4 w')=>h6.o w' (o.o.trans (hb.mono o.o.size)));have J6:=a6 (fun(w':World) (hb:Below w4 w4 w')=>h7.o w' (o.o.trans (hb.mono o.o.size)));have J7:=a6 (fun(w':World) (hb:Below w4 w4 w')=>show At w' W [(a,sn,c),Y1,Y2,Y3,Y4,Y5,(ea,en,ec),Y6,Y7,o0,o1,o2,o3,o4,o5,Y8] 30/\At w' (W+1) [l,(b1,m1,d1),(b2,m2,d2),(b3,m3,d3)] 35 from And.intro ((HA.o.kept H4.o).kept hb) ((HN.o.kept H4.o).kept hb));have H5:=fun(w':World) (h:At w' W [(a,sn,c),Y1,Y2,Y3,Y4,Y5,(ea,en,ec),Y6,Y7,o0,o1,o2,o3,o4,o5,Y8] 30)=>At.load (P:=Tryz.prog) h Tryz.underlying30 rfl P3
   simp [go_sem]at H5
   have H6:=fun(w':World) (h:At w' (W+1) [l,(b1,m1,d1),(b2,m2,d2),(b3,m3,d3)] 35)=>At.load (P:=Tryz.prog) h Tryz.underlying35 rfl P3
   simp [go_sem]at H6
   clear Q F h7 h6 K5;go_cut [9,10,11,12] (fun x g k y wx=>∃ (M:Nat) (E:Int) (x0:Bool) (x1 x2 x3 na:Option Addr) (y1 y2 y3 z1 z2 z3 nn nc kk:Nat),x= .pointer M/\g= .slice na nn nc/\k= .int .i64 kk/\y= .int .i64 E/\Hid (At wx M [x0,(x1,y1,z1),(x2,y2,z2),(x3,y3,z3)] 35)/\Hid (E=o8 s n/\(o8 s n≠0/\nn=0/\kk=0/\([x0,(x1,y1,z1),(x2,y2,z2),(x3,y3,z3)]:List Value)= [.bool false, .slice none 0 0, .slice none 0 0, .slice none 0 0]∨o8 s n=0/\∃ (A:MT) (ops:List fZ),wX s picks 0 (MT.on (tX n) n) A kk ops/\nn=ops.length/\NodeQ wx (fun b=>w4.heap.size <= b/\b≠M) A.bare [x0,(x1,y1,z1),(x2,y2,z2),(x3,y3,z3)]))/\Hid (Below w4 w4 wx)/\w4.heap.size <= M)
   case first=>
    go_region_held3 (fun w'=>At w' W [(a,sn,c),Y1,Y2,Y3,Y4,Y5,(ea,en,ec),Y6,Y7,o0,o1,o2,o3,o4,o5,Y8] 30/\At w' (W+1) [l,(b1,m1,d1),(b2,m2,d2),(b3,m3,d3)] 35) ((refine J7.o _ ?_;((with_reducible (repeat (first | exact B.o | exact j.o | exact a7 | refine aK ?_ | refine aQ ?_ ?_ _ | refine aV ?_ ?_ _)) <;> (first | exact a8 | exact B.o.size | exact j.o.size | (have:=B.o.size;simp [World.setCell];omega) | (have:=j.o.size;simp [World.setCell];omega) | (simp <;> omega) | omega)))))
     (first
     | (refine bQ rfl 23 _ _ rfl P5 [.agg #[l,(b1,m1,d1),(b2,m2,d2),(b3,m3,d3)]] ?_ _ (J5.o _ P1) ?_
        . go_simp
        rintro e w5 ⟨vx,ys,rfl,G,J8,d⟩;obtain⟨ma,mc,K7⟩:=G.form;subst K7;refine⟨_,rfl, ?_⟩;have j:=a6 (b6 (w0:=w4) P1 d);have K8:=a6 G;have K9:=a6 J8
        first
         | (refine At.lay (N:= ?_) (cs:= [false,(),(),()]) (T:=35) (At.kept ?_ d) ?_
            rotate_left
            . with_reducible (repeat (first | exact At.second _ _ _ _ | exact At.fresh _ _ _ | refine At.drew ?_ | refine At.alloc ?_ _))
            intro J9)
         | skip
        clear d G J8)
     | (refine bQ rfl 22 _ _ rfl P5 [.agg #[(a,sn,c),Y1,Y2,Y3,Y4,Y5,(ea,en,ec),Y6,Y7,o0,o1,o2,o3,o4,o5,Y8], .agg #[l,(b1,m1,d1),(b2,m2,d2),(b3,m3,d3)],(ma,ys.length,mc),(ka,picks.length,kc)] ?_ _ (J6.o _ ?_ ma mc ys ?_ K9.o) ?_
        . go_simp
        . (with_reducible (repeat (first | exact j.o | exact a7 | refine aK ?_ | refine aQ ?_ ?_ _ | refine aV ?_ ?_ _)) <;> (first | exact a8 | exact j.o.size | (have:=j.o.size;simp [World.setCell];omega) | (simp <;> omega) | omega))
        . exact(K8.o.below P1).read
        rintro e w6 j4;obtain⟨E,x0,x1,x2,x3,na,y1,y2,y3,z1,z2,z3,k,nn,nc,rfl,R⟩:=c_Q.alike j4;refine⟨_,rfl, ?_⟩;have B:=a6 (b6 (w0:=w4) (by(with_reducible (repeat (first | exact j.o | exact a7 | refine aK ?_ | refine aQ ?_ ?_ _ | refine aV ?_ ?_ _)) <;> (first | exact a8 | exact j.o.size | (have:=j.o.size;simp [World.setCell];omega) | (simp <;> omega) | omega))) R.1);have k0:=a6 R;have d:=R.1;have k3:=a6 d.size;have k4:=a6 j.o.size
        first
         | (refine At.lay (N:= ?_) (cs:= [false,(),(),()]) (T:=35) (At.kept ?_ d) ?_
            rotate_left
            . with_reducible (repeat (first | exact J9.o | exact At.second _ _ _ _ | exact At.fresh _ _ _ | refine At.drew ?_ | refine At.alloc ?_ _))
            intro S)
         | skip
        first
         | (obtain⟨⟨r0,r1',r2',r3'⟩,rf,rl⟩:=S.o.f4)
         | skip
        clear R j4 d))
    all_goals
     clear H6 H5;go_wp2_with fail
     go_meet
     case rel=>
      have k5:=k3.o;have Q2:=k4.o
      try simp at k5
      first
       | (have Q3:=J9.o.lt)
       | skip
      refine⟨_,E,x0,x1,x2,x3,na,y1,y2,y3,z1,z2,z3,nn,nc,k,rfl,rfl,rfl,rfl,a6 ?_,a6 ?_,a6 ?_, ?_⟩
      . (repeat (first | with_reducible exact S.o | with_reducible exact S.o.s4 _ _ _ _ | with_reducible exact(S.o.alloc _).s4 _ _ _ _ | with_reducible exact At.second _ _ _ _ | with_reducible exact At.fresh _ _ _ | (with_reducible refine At.fresh2 ?_;(simp [World.setCell];done)) | with_reducible refine At.drew ?_ | with_reducible refine At.alloc ?_ _ | (with_reducible refine At.n4 ?_ ?_ _ _ _ _;rotate_left;(omega))))
      . obtain ⟨-,hE,h | ⟨h1,A,ops,na',nc',h2,h4,h5⟩⟩:=k0.o
        . obtain ⟨h1,h2,h3,h4⟩:=h
          injection h3 with _ h3 _
          exact⟨hE, .inl ⟨h1,h3,h4,h2⟩⟩
        injection h4 with _ h4 _
        refine⟨hE, .inr ⟨h1,A,ops,h2,h4, ?_⟩⟩
        (repeat (first | with_reducible refine lX ?_ P6 _ _ _ _ | with_reducible refine gY ?_ (b7 _ _)))
        refine NodeQ.keep (a8) (fun _ _ _=>rfl) (fun b hb Q4=> ?_) _ _ h5
        try simp at hb
        exact⟨by omega,by omega⟩
      . (with_reducible (repeat (first | exact B.o | exact a7 | refine aK ?_ | refine aQ ?_ ?_ _ | refine aV ?_ ?_ _)) <;> (first | exact a8 | exact B.o.size | (have:=B.o.size;simp [World.setCell];omega) | (simp <;> omega) | omega))
      first | exact a8 | omega
   case rest=>
   obtain⟨M,E',x0,x1,x2,x3,na,y1',y2',y3',z1,z2,z3,nn,nc,kk,rfl,rfl,rfl,rfl,U,hO,hB,hM⟩:=hcut;have e0:E'=E:=by rw [L.o];exact hO.o.1
   subst e0;obtain⟨w6,rfl⟩:∃w6,w6=wc:=⟨_,rfl⟩;have H7:=a6 (J2.o.kept hB.o);have r:=a6 (o.o.trans (hB.o.mono o.o.size));have j5:=a6 (fun(m1 m2:aX) (u1 u2:Value) (w':World) (k1:bY w' w' m1 u1) (k2:bY w' w' m2 u2)=>e_0 m1.wt m1 m2 u1 u2 w' (a8) k1 k2);have k6:=a6 (fun(m1 m2:aX) (u1 u2:Value) (w':World) (k1:bY w' w' m1 u1) (k2:bY w' w' m2 u2)=>d_Z m1.wt m1 m2 u1 u2 w' (a8) k1 k2);clear H5 H6 J5 J6 J7 J2;by_cases hz:E'=0
   . --<1
     subst hz;have f:o8 s n=0:=L.o.symm
     rcases O.o with⟨h, -⟩ | ⟨-,A,ma,opsA,j6,j7⟩
     . exact absurd f h
     obtain⟨-,⟨h, -⟩ | ⟨-,A',opsB,j8, -,j9⟩⟩:=hO.o
     . exact absurd f h
     have k7:=(eY f).2.1;obtain⟨-,da,K0, -⟩:=j6.runR (eY f).1;obtain⟨-,db,K1, -⟩:=j8.runR (eY f).1;obtain⟨k8, -, -⟩:=M7 (eY f).1 _ _ _ _ _ _ _ _ (a8) (by rw [mZ];exact k7) K0 K1;subst k8;have HS:=k6.o A.bare A.bare _ _ w6 ⟨_,rfl,NodeQ.node _ _ (gY j7 (b6 J4.o hB.o))⟩ ⟨_,rfl,NodeQ.node _ _ j9⟩
     rw [oQ]at HS;have H:=a6 HS
     obtain⟨⟨i0,i1,i2,i3⟩, -,il⟩:=H7.o.f4;obtain⟨⟨j0,j1,j2,j3⟩, -,jl⟩:=U.o.f4;clear HS j6 j8 j7 j9 K0 K1 O hO;go_wp2_with fail;refine H.o.mono ?_;rintro e w7 ⟨rfl,d⟩;have V:=a6 (r.o.trans (d.mono r.o.size))
     clear d H i0 i1 i2 i3 il j0 j1 j2 j3 jl;go_wp2_with fail;go_ret;exact⟨rfl,V.o⟩
   --<2
   have f:o8 s n≠0:=by rw [<- L.o];exact hz
   have Q5:(E' != 0)=true:=SQ
   rcases O.o with⟨-,p⟩ | ⟨h, -⟩
   . obtain ⟨-,⟨-,e1,e2,q⟩ | ⟨h, -⟩⟩:=hO.o
     . injection p with a0 p;injection p with a1 p;injection p with a2 p;injection p with a3 p
       injection q with q0 q;injection q with q1 q;injection q with q2 q;injection q with q3 q
       rw [a0,a1,a2,a3]at H7;rw [q0,q1,q2,q3]at U;subst e2;obtain⟨⟨i0,i1,i2,i3⟩, -,il⟩:=H7.o.f4;have HS:=j5.o cV cV _ _ w6 (A8 w6) (A8 w6);rw [oQ]at HS;have H:=a6 HS
       have k9:=a6 U.o;clear HS O hO a0 a1 a2 a3 q0 q1 q2 q3 e1 U;go_wp2_with fail;refine H.o.mono ?_;rintro e w7 ⟨rfl,d⟩;have V:=a6 (r.o.trans (d.mono r.o.size))
       obtain⟨⟨j0,j1,j2,j3⟩, -,jl⟩:=(k9.o.kept d).f4;have HS:=j5.o cV cV _ _ w7 (A8 w7) (A8 w7);rw [oQ]at HS;have K2:=a6 HS
       clear d HS H i0 i1 i2 i3 il;go_wp2_with fail;refine K2.o.mono ?_;rintro e w8 ⟨rfl,d⟩;have Q0:=a6 (V.o.trans (d.mono V.o.size))
       clear d K2 j0 j1 j2 j3 jl;go_wp2_with fail;go_ret;exact⟨bJ P6,Q0.o⟩
     exact absurd h f
   exact absurd h f
end Go.Proofs.YtmadpclcmjahoaaGreatDoor
