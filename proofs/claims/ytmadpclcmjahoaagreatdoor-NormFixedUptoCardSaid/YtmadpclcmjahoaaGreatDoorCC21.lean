/- Parts of the proof: CC21. -/
import Derived.Test.YtmadpclcmjahoaaGreatDoorCC20
set_option linter.unusedVariables false
set_option linter.unusedSimpArgs false
set_option maxHeartbeats 8000000
set_option maxRecDepth 100000
namespace Go.Proofs.YtmadpclcmjahoaaGreatDoor
open Go.RowKit Go.Redl
inductive MT where
 | mk (m:Bool) (l:Bool) (ps:List fQ) (t:List Int) (ks:List MT)
def MT.mark:MT ->Bool
 | .mk m _ _ _ _=>m
def MT.kids:MT ->List MT
 | .mk _ _ _ _ ks=>ks
def MT.setKids:MT ->List MT ->MT
 | .mk m l ps t _,ks=> .mk m l ps t ks
mutual
def MT.bare:MT ->aX
 | .mk _ l ps t ks=> .mk l ps t (MT.bares ks)
def MT.bares:List MT ->List aX
 | []=> []
 | k::ks=>k.bare::MT.bares ks
end
theorem MT.bares_map:∀ks:List MT,MT.bares ks=ks.map MT.bare
 | []=>rfl
 | k::ks=>by rw [MT.bares,MT.bares_map ks];rfl
theorem MT.kids_bare (T:MT):aY T.bare=T.kids.map MT.bare:=by
 cases T;simp only [MT.bare,aY,MT.kids,MT.bares_map]
theorem MT.bare_setKids (T:MT) (ks:List MT):(T.setKids ks).bare=Go.Proofs.YtmadpclcmjahoaaGreatDoor.setKids T.bare (ks.map MT.bare):=by
 cases T;simp only [MT.bare,MT.setKids,Go.Proofs.YtmadpclcmjahoaaGreatDoor.setKids,MT.bares_map]
theorem MT.kids_setKids (T:MT) (ks:List MT):(T.setKids ks).kids=ks:=SV
theorem MT.mark_setKids (T:MT) (ks:List MT):(T.setKids ks).mark=T.mark:=SV
theorem MT.setKids_setKids (T:MT) (a b:List MT):(T.setKids a).setKids b=T.setKids b:=SV
theorem MT.setKids_self (T:MT):T.setKids T.kids=T:=SV
def MT.at_:MT ->List Int ->Option MT
 | T, []=>some T
 | T,i::p=>if 0 <= i then (match T.kids[i.toNat]? with | some k=>MT.at_ k p | none=>none) else none
def MT.mk? :MT ->List Int ->Bool
 | T, []=>T.mark
 | T,i::p=>if 0 <= i then (match T.kids[i.toNat]? with | some k=>MT.mk? k p | none=>false) else false
theorem MT.mk_nil (T:MT):T.mk? []=T.mark:=rfl
def MT.put:MT ->List Int ->MT ->MT
 | _, [],m=>m
 | T,i::p,m=>match T.kids[i.toNat]? with
   | some k=>T.setKids (T.kids.set i.toNat (MT.put k p m))
   | none=>T
theorem MT.at_bare:∀ (p:List Int) (T:MT),l9 T.bare p=(T.at_ p).map MT.bare
 | [],T=>rfl
 | i ::p,T=>by
   unfold l9 MT.at_
   split
   . rw [MT.kids_bare,List.getElem?_map]
     cases T.kids[i.toNat]? with
     | none=>rfl
     | some k=>exact MT.at_bare p k
   rfl
theorem MT.at_cons_some {T m:MT} {i:Int} {p:List Int} (h:T.at_ (i::p)=some m):∃j:Nat,i=(j:Int)/\∃hj:j < T.kids.length,T.kids[j].at_ p=some m:=by
 unfold MT.at_ at h
 split at h
 . rename_i h0
   obtain⟨j,rfl⟩:∃j:Nat,i=j:=⟨i.toNat,by omega⟩;rw [O0]at h;by_cases hj:j < T.kids.length
   . rw [NV hj]at h
     exact⟨j,rfl,hj,h⟩
   rw [List.getElem?_eq_none P2]at h
   cases h
 cases h
theorem MT.at_cons {T:MT} {j:Nat} {p:List Int} (hj:j < T.kids.length):T.at_ ((j:Int)::p)=T.kids[j].at_ p:=by
 conv=>lhs;unfold MT.at_
 rw [if_pos P2,O0,NV hj]
theorem MT.put_cons {T m:MT} {j:Nat} {p:List Int} (hj:j < T.kids.length):T.put ((j:Int)::p) m=T.setKids (T.kids.set j (T.kids[j].put p m)):=by
 conv=>lhs;unfold MT.put
 rw [O0,NV hj]
theorem MT.mk_cons {T:MT} {j:Nat} {p:List Int} (hj:j < T.kids.length):T.mk? ((j:Int)::p)=T.kids[j].mk? p:=by
 conv=>lhs;unfold MT.mk?
 rw [if_pos P2,O0,NV hj]
theorem MT.mk_cons_true {T:MT} {i:Int} {p:List Int} (h:T.mk? (i::p)=true):∃j:Nat,i=(j:Int)/\∃hj:j < T.kids.length,T.kids[j].mk? p=true:=by
 unfold MT.mk? at h;split at h
 . obtain ⟨j,rfl⟩:∃j:Nat,i=j:=⟨i.toNat,by omega⟩
   rw [O0]at h;by_cases hj:j < T.kids.length
   . rw [NV hj]at h
     exact⟨j,rfl,hj,h⟩
   rw [List.getElem?_eq_none P2]at h
   cases h
 cases h
theorem MT.mk_at:∀ (p:List Int) (T:MT),T.mk? p=true ↔ ∃t,T.at_ p=some t/\t.mark=true
 | [],T=>by simp [MT.mk?,MT.at_]
 | i ::p,T=>by
   constructor
   . intro h
     obtain⟨j,rfl,hj,h2⟩:=MT.mk_cons_true h;rw [MT.at_cons hj];exact(MT.mk_at p _).1 h2
   rintro⟨t,h1,h2⟩;obtain⟨j,rfl,hj,h3⟩:=MT.at_cons_some h1;rw [MT.mk_cons hj];exact(MT.mk_at p _).2 ⟨t,h3,h2⟩
theorem MT.bare_put:∀ (p:List Int) (T k m:MT),T.at_ p=some k ->(T.put p m).bare=jX T.bare p m.bare
 | [],T,k,m,h=>by simp [MT.put,jX]
 | i::p,T,k,m,h=>by
   obtain⟨j,rfl,hj,h2⟩:=MT.at_cons_some h;have a:j < (aY T.bare).length:=by rw [MT.kids_bare];simpa using hj
   rw [MT.put_cons hj,o9 a,MT.bare_setKids,List.map_set,MT.bare_put p _ k m h2];simp only [MT.kids_bare,List.getElem_map]
theorem MT.at_put:∀ (p:List Int) (T k m:MT),T.at_ p=some k ->(T.put p m).at_ p=some m
 | [],T,k,m,h=>by simp [MT.put,MT.at_]
 | i::p,T,k,m,h=>by
   obtain⟨j,rfl,hj,h2⟩:=MT.at_cons_some h;rw [MT.put_cons hj];have a:j < (T.setKids (T.kids.set j (T.kids[j].put p m))).kids.length:=S9
   rw [MT.at_cons a];simp only [MT.kids_setKids,List.getElem_set_self];exact MT.at_put p _ k m h2
theorem MT.put_put:∀ (p:List Int) (T k a b:MT),T.at_ p=some k ->(T.put p a).put p b=T.put p b
 | [],T,k,a,b,h=>by simp [MT.put]
 | i::p,T,k,a,b,h=>by
   obtain⟨j,rfl,hj,h2⟩:=MT.at_cons_some h;rw [MT.put_cons hj,MT.put_cons hj];have c:j < (T.setKids (T.kids.set j (T.kids[j].put p a))).kids.length:=S9
   rw [MT.put_cons c,MT.setKids_setKids];simp only [MT.kids_setKids,List.getElem_set_self,List.set_set];rw [MT.put_put p _ k a b h2]
theorem MT.at_step (T:MT) (i:Int) (p:List Int):T.at_ (i::p)=if 0 <= i then (match T.kids[i.toNat]? with | some k=>MT.at_ k p | none=>none) else none:=by
 conv=>lhs;unfold MT.at_
theorem MT.at_append:∀ (p q:List Int) (T:MT),T.at_ (p ++ q)=(T.at_ p).bind (fun k=>k.at_ q)
 | [],q,T=>by simp [MT.at_]
 | i ::p,q,T=>by
   rw [List.cons_append,MT.at_step T i (p ++ q),MT.at_step T i p];split
   . cases T.kids[i.toNat]? with
     | none=>rfl
     | some k=>exact MT.at_append p q k
   rfl
theorem MT.put_append:∀ (p q:List Int) (T k m:MT),T.at_ p=some k ->T.put (p ++ q) m=T.put p (k.put q m)
 | [],q,T,k,m,h=>by
   have e:T=k:=t_y
   subst e;simp [MT.put]
 | i::p,q,T,k,m,h=>by
   obtain⟨j,rfl,hj,h2⟩:=MT.at_cons_some h;rw [List.cons_append,MT.put_cons hj,MT.put_cons hj,MT.put_append p q _ k m h2]
theorem MT.put_same:∀ (p:List Int) (T k:MT),T.at_ p=some k ->T.put p k=T
 | [],T,k,h=>by
   have e:T=k:=t_y
   subst e;simp [MT.put]
 | i::p,T,k,h=>by
   obtain⟨j,rfl,hj,h2⟩:=MT.at_cons_some h;rw [MT.put_cons hj,MT.put_same p _ k h2,List.set_getElem_self,MT.setKids_self]
theorem MT.mk_app:∀ (p q:List Int) (T k:MT),T.at_ p=some k ->T.mk? (p ++ q)=k.mk? q
 | [],q,T,k,h=>by
   have e:T=k:=t_y
   subst e;rfl
 | i::p,q,T,k,h=>by
   obtain⟨j,rfl,hj,h2⟩:=MT.at_cons_some h;rw [List.cons_append,MT.mk_cons hj,MT.mk_app p q _ k h2]
theorem MT.mk_put:∀ (p q:List Int) (T k m:MT),T.at_ p=some k ->¬p <+:q ->(q <+:p ->m.mark=k.mark) ->(T.put p m).mk? q=T.mk? q
 | [],q,T,k,m,h,h1,_=>absurd List.nil_prefix h1
 | i::p, [],T,k,m,h,h1,_=>by
   obtain⟨j,rfl,hj,h2⟩:=MT.at_cons_some h;rw [MT.put_cons hj];show (T.setKids _).mark=T.mark;rw [MT.mark_setKids]
 | i ::p,c::q,T,k,m,h,h1,h3=>by
   obtain⟨j,rfl,hj,h2⟩:=MT.at_cons_some h;rw [MT.put_cons hj];by_cases hc:c=(j:Int)
   . subst hc
     have a:j < (T.setKids (T.kids.set j (T.kids[j].put p m))).kids.length:=S9
     rw [MT.mk_cons a,MT.mk_cons hj];simp only [MT.kids_setKids,List.getElem_set_self];exact MT.mk_put p q _ k m h2 (fun h=>h1 (List.cons_prefix_cons.2 ⟨rfl,h⟩)) (fun h=>h3 (List.cons_prefix_cons.2 ⟨rfl,h⟩))
   conv=>lhs;unfold MT.mk?
   conv=>rhs;unfold MT.mk?
   split
   . rw [MT.kids_setKids,List.getElem?_set_ne P2]
   rfl
def c_3 (s:b5) (r:bK):Nat:=(mQ s r).toNat
def o_I (s:b5):Nat:=(oX s).1.toNat
def KV (s:b5):Nat:=2 * o_I s+4
theorem e_E (f:bK ->Int):∀ (l:List bK) (m:Int),m <= l.foldl (fun m r=>max m (f r)) m/\∀r∈l,f r <= l.foldl (fun m r=>max m (f r)) m
 | [],m=>⟨Int.le_refl _,by simp⟩
 | x::l,m=>by
   obtain⟨h1,h2⟩:=e_E f l (max m (f x));simp only [List.foldl_cons];refine⟨by omega,fun r hr=> ?_⟩;rcases OJ hr with rfl | hr
   . omega
   exact h2 r hr
theorem o_J {s:b5} (hs:eJ s=0) {r:bK} (hr:r∈rJ s):c_3 s r <= o_I s:=by
 unfold c_3 o_I oX;rw [if_neg (by simp [hs])];have:=(e_E (fun r=>mQ s r) (rJ s) 0).2 r hr;simp only at this⊢;omega
theorem e_F (s:b5):∀ (f:Nat) (m1 m2:List (List UInt8)) (r:bK) (n:Nat),(∀x∈m2,x∈m1) ->0 <= l8 s f m1 r n ->l8 s f m2 r n=l8 s f m1 r n
 | 0,m1,m2,r,n,hm,h=>by simp [l8]at h
 | f+1,m1,m2,r,n,hm,h=>by
   unfold l8 at h⊢;split
   . rfl
   rename_i h0
   rw [if_neg h0]at h;split
   . rfl
   rename_i h1
   rw [if_neg h1]at h;split at h
   . omega
   rename_i h2
   rw [if_neg (fun h3=>h2 (hm _ h3))];rw [if_neg h2];exact e_F s f (r.type::m1) (r.type::m2) (cJ s r.fillT) (n+1) (fun x hx=>by
    rcases OJ hx with rfl | hx
    . simp
    exact List.mem_cons_of_mem _ (hm x hx)) h
theorem d_n (s:b5):∀ (f:Nat) (m:List (List UInt8)) (r:bK) (n:Nat),0 <= l8 s f m r n ->l8 s (f+1) m r n=l8 s f m r n
 | 0,m,r,n,h=>by simp [l8]at h
 | f+1,m,r,n,h=>by
   unfold l8 at h;conv=>lhs;unfold l8
   conv=>rhs;unfold l8
   split
   . rfl
   rename_i h0
   rw [if_neg h0]at h;split
   . rfl
   rename_i h1
   rw [if_neg h1]at h;split
   . rfl
   rename_i h2
   rw [if_neg h2]at h;exact d_n s f _ _ _ h
theorem c_4 (s:b5):∀ (f:Nat) (m:List (List UInt8)) (r:bK) (n:Nat),0 <= l8 s f m r n ->l8 s f m r (n+1)=l8 s f m r n+1
 | 0,m,r,n,h=>by simp [l8]at h
 | f+1,m,r,n,h=>by
   unfold l8 at h⊢;split
   . simp
   rename_i h0
   rw [if_neg h0]at h;split
   . simp
   rename_i h1
   rw [if_neg h1]at h;split
   . rename_i h2;rw [if_pos h2]at h;omega
   rename_i h2
   rw [if_neg h2]at h;exact c_4 s f _ _ _ h
theorem g_5 (s:b5):∀ (f:Nat) (m:List (List UInt8)) (r:bK) (n:Nat),0 <= l8 s f m r (n+1) ->0 <= l8 s f m r n
 | 0,m,r,n,h=>by simp [l8]at h
 | f+1,m,r,n,h=>by
   unfold l8 at h⊢;split
   . omega
   rename_i h0
   rw [if_neg h0]at h;split
   . omega
   rename_i h1
   rw [if_neg h1]at h;split
   . rename_i h2;rw [if_pos h2]at h;omega
   rename_i h2
   rw [if_neg h2]at h;exact g_5 s f _ _ _ h
theorem q_I {s:b5} {r:bK} (h1:r.fill=1):c_3 s r=1:=by
 unfold c_3 mQ l8;rw [if_neg P2,if_pos h1];rfl
theorem o_K {s:b5} {r:bK} (h0:r.fill≠0) (h1:r.fill≠1) (hd:0 <= mQ s r):c_3 s r=c_3 s (cJ s r.fillT)+1:=by
 unfold c_3;have h:mQ s r=l8 s (s.rules.length+1) [r.type] (cJ s r.fillT) 1:=by
  unfold mQ;conv=>lhs;unfold l8
  rw [if_neg h0,if_neg h1,if_neg P6]
 rw [h]at hd;have e1:=g_5 s _ _ _ _ hd
 have e2:=c_4 s _ _ _ _ e1;have e3:=e_F s _ [r.type] [] _ 0 P6 e1;have e4:=d_n s _ [] (cJ s r.fillT) 0 (by rw [e3];exact e1);have e5:mQ s (cJ s r.fillT)=l8 s (s.rules.length+1) [r.type] (cJ s r.fillT) 0:=by
  unfold mQ;rw [e4,e3]
 rw [h,e2,e5];omega
def a_m (s:b5) (n:aX):Nat:=1+if b8 n then 0 else if (aY n).length=0 then 2 * c_3 s (cJ s (dZ n)) else 0
mutual
def J9 (s:b5) (c:Bool):aX ->Nat
 | .mk l ps t ks=>vK s (cJ s (dZ (.mk l ps t []))) c ks
def vK (s:b5) (r:bK) (c:Bool):List aX ->Nat
 | []=>0
 | k::ks=>(if c && decide ((eQ r k).1=1) then a_m s k+J9 s true k else KV s+J9 s false k)+vK s r c ks
end
def a_N (s:b5) (r:bK) (c:Bool) (k:aX):Nat:=if c && decide ((eQ r k).1=1) then a_m s k+J9 s true k else KV s+J9 s false k
theorem oK (s:b5) (r:bK) (c:Bool) (k:aX) (ks:List aX):vK s r c (k::ks)=a_N s r c k+vK s r c ks:=by rw [vK];rfl
theorem o7 (s:b5) (r:bK) (c:Bool):∀a b:List aX,vK s r c (a ++ b)=vK s r c a+vK s r c b
 | [],b=>by simp [vK]
 | x::a,b=>by rw [List.cons_append,oK,oK,o7 s r c a b];omega
theorem IV (s:b5) (c:Bool) (n:aX):J9 s c n=vK s (cJ s (dZ n)) c (aY n):=by
 obtain⟨l,ps,t,ks⟩:=n;rw [J9];rfl
theorem c_5 {s:b5} (hs:eJ s=0) (n:aX):a_m s n+3 <= KV s:=by
 unfold a_m KV;have:=o_J hs (IQ s (dZ n))
 split
 . omega
 split <;> omega
mutual
theorem a_G {s:b5} (hs:eJ s=0):∀n:aX,J9 s true n <= J9 s false n
 | .mk l ps t ks=>by rw [J9,J9];exact g_6 hs _ ks
theorem g_6 {s:b5} (hs:eJ s=0):∀ (r:bK) (ks:List aX),vK s r true ks <= vK s r false ks
 | r, []=>by simp [vK]
 | r,k::ks=>by
   have h1:=a_G hs k;have h2:=g_6 hs r ks;have h3:=c_5 hs k;rw [vK,vK];simp only [Bool.true_and,Bool.false_and,Bool.false_eq_true,if_false];split <;> omega
end
theorem l_d {s:b5} (hs:eJ s=0) (r:bK) (c:Bool) (k:aX):a_N s r c k <= KV s+J9 s false k:=by
 unfold a_N;have h1:=a_G hs k
 have h3:=c_5 hs k
 split <;> omega
theorem l_e {s:b5} (hs:eJ s=0) (r:bK) (c:Bool) (k:aX):a_m s k+J9 s true k <= a_N s r c k:=by
 unfold a_N;have h1:=a_G hs k
 have h3:=c_5 hs k
 split <;> omega
def c_6 (s:b5) (n:aX):Nat:=a_m s n+J9 s true n
def i_s (d:Nat) (L:List aX):Nat:=if L.length=0 then 2 * d else 0
theorem l_f (d:Nat) (L:List aX):i_s d L <= 2 * d:=by unfold i_s;split <;> omega
theorem D9 (d:Nat) {L:List aX} (h:0 < L.length):i_s d L=0:=by unfold i_s;rw [if_neg P2]
theorem m_s (d:Nat) {L:List aX} (h:L.length=0):i_s d L=2 * d:=by unfold i_s;rw [if_pos h]
theorem d_o (s:b5) (k:aX) (L:List aX) (hl:b8 k=false):c_6 s (setKids k L)=1+i_s (c_3 s (cJ s (dZ k))) L+vK s (cJ s (dZ k)) true L:=by
 unfold c_6 a_m;rw [mK,hl,kids_setKids,M5,IV,M5,kids_setKids];rfl
theorem e_G {s:b5} {r:bK} {k:aX} (h:(eQ r k).1≠1):a_N s r true k=KV s+J9 s false k:=by
 unfold a_N;simp [h]
theorem e_H {s:b5} {r:bK} {k:aX} (h:(eQ r k).1=1):a_N s r true k=a_m s k+J9 s true k:=by
 unfold a_N;simp [h]
theorem i_t (s:b5) (hs:eJ s=0) (r:bK) (c:Bool) (k:aX):1 <= a_N s r c k:=by
 have:=l_e hs r c k;unfold a_m at this;omega
theorem c_K {s:b5} {r:bK} {c:Bool} {ks:List aX} {j:Nat} (hj:j < ks.length):vK s r c ks=vK s r c (ks.take j)+(a_N s r c ks[j]+vK s r c (ks.drop (j+1))):=by
 conv=>lhs;rw [e_C hj]
 rw [o7,oK]
theorem m_t {r:bK} {ks:List aX} {j:Nat} (h:gV r ks 1=j):j < ks.length/\(eQ r (cY ks j)).1=2:=by
 unfold gV at h;rw [if_neg P9]at h;rcases jV (D2 r ks 1) ks.length with⟨k,hk,hp, -,he⟩ | ⟨-,he⟩
 . rw [he]at h
   have:k=j:=P2
   subst this;have h2:decide ((eQ r (cY ks k)).1=2)=true:=hp
   exact⟨hk,by simpa using h2⟩
 rw [he]at h;omega
theorem i_u {r:bK} {ks:List aX} {j:Nat} (h:gV r ks 5=j):1 < ks.length:=by
 unfold gV at h;rw [if_neg P9]at h;rcases jV (D2 r ks 5) ks.length with⟨k,hk,hp, -,he⟩ | ⟨-,he⟩
 . have h2:(b8 (cY ks k) && (decide ((iJ (cY ks k)).length=0) && decide (1 < ks.length)))=true:=hp
   simp only [Bool.and_eq_true,decide_eq_true_eq]at h2;exact h2.2.2
 rw [he]at h;omega
theorem a_V {s:b5} (hs:eJ s=0) (r r':bK):∀ks:List aX,vK s r true ks <= vK s r' false ks
 | []=>by simp [vK]
 | k::ks=>by
   have h1:=l_d hs r true k;have h2:=a_V hs r r' ks;rw [oK,oK];have:a_N s r' false k=KV s+J9 s false k:=by unfold a_N;simp
   omega
theorem i_v {s:b5} (hs:eJ s=0) {r r':bK}:∀l:List aX,(∀x∈l,(eQ r x).1≠1) ->(∀x∈l,(eQ r' x).1=1) ->vK s r' true l+3 * l.length <= vK s r true l
 | [],_,_=>by simp [vK]
 | x::l,h1,h2=>by
   have h3:=i_v hs l (fun y hy=>h1 y t_t) (fun y hy=>h2 y t_t);rw [oK,oK,e_G (h1 x P6),e_H (h2 x P6),O7];have h4:=c_5 hs x;have h5:=a_G hs x
   omega
theorem k_6 {r:bK} {x:aX} (hl:b8 x=true):eQ r x=r.text:=by unfold eQ;rw [if_pos hl]
theorem o_L {s:b5} {k:aX} (hs:eJ s=0) (hn:dQ k=0) (hf:(eV s k).1≠0):c_6 s (setKids k (a_8 (cJ s (dZ k)) (aY k) (eV s k)))+1 <= c_6 s k:=by
 have b:=IQ s (dZ k);obtain⟨o, -,g⟩:=AZ hs _ b;have hF:=B3 o;have hE:=sQ hn;rcases oV s k with h | ⟨c,j,hl,h1,h6,hj,he,d,h4,H⟩
 . rw [h]at hf;exact absurd rfl hf
 have hA:2 * c_3 s (cJ s (dZ k))+4 <= KV s:=by have:=o_J hs b;unfold KV;omega
 rw [he,d_o s k _ hl];have l:c_6 s k=1+i_s (c_3 s (cJ s (dZ k))) (aY k)+vK s (cJ s (dZ k)) true (aY k):=by
  have:=d_o s k (aY k) hl
  rwa [setKids_self]at this
 rw [l];clear l;generalize cJ s (dZ k)=r at hF hj b g hA⊢;obtain rfl | rfl | rfl | rfl | rfl | rfl:c=1∨c=2∨c=3∨c=4∨c=5∨c=6:=P2
 . have a:=d P2
   obtain⟨-,g2⟩:=m_t (show gV r (aY k) 1=j from hj);rw [kid_at a]at g2;rw [K6 (.inl rfl)];simp only [O0];rw [c_K a,e_G P2,List.eraseIdx_eq_take_drop_succ,o7];have q1:=l_f (c_3 s r) ((aY k).take j ++ (aY k).drop (j+1))
   omega
 . have a:=d P2
   obtain⟨-,g2⟩:=m_q (show gV r (aY k) 2=j from hj);rw [kid_at a]at g2;rw [e_g rfl];simp only [O0];rw [c_K a,e_G P2,o7,o7,kid_at a];have h2:=IV s false (aY k)[j];have h3:=a_V hs r (cJ s (dZ (aY k)[j])) (aY (aY k)[j]);have q1:=l_f (c_3 s r) ((aY k).take j ++ (aY (aY k)[j] ++ (aY k).drop (j+1)))
   omega
 . have a:=d P2
   have q:gV r (aY k) 3=j:=hj;have C:j7 r (aY k) ((3:Nat):Int)=j7 r (aY k) 3:=rfl;rw [C];have hm:=c_A r (aY k) j a q
   obtain⟨g1,g2,g3⟩:=c_1 a q;generalize j7 r (aY k) 3=m at hm g2 g3⊢;rw [b_b rfl];simp only [O0];rw [kid_at a];have u:=g_2 hs b g1
   have hT:dZ (gX (eQ r (aY k)[j]).2)=(eQ r (aY k)[j]).2:=c_J;have p:b8 (gX (eQ r (aY k)[j]).2)=false:=rfl;have n:∀x∈ ((aY k).drop j).take m,(eQ (cJ s (eQ r (aY k)[j]).2) x).1=1:=fun x hx=>by
    have e:=g3 x hx;have D:(eQ r x).1=4:=by rw [e];exact g1
    have:=(g_2 hs b D).2
    rwa [e]at this
   generalize hX:gX (eQ r (aY k)[j]).2=X at hT p⊢;generalize (eQ r (aY k)[j]).2=T at u hT n;have v:(((aY k).drop j).take m).length=m:=P8
   have hw:=i_v hs (((aY k).drop j).take m) (fun x hx=>by rw [g3 x hx,g1];decide) n;rw [v]at hw;have E:(eQ r (setKids X (((aY k).drop j).take m))).1=1:=by
    rw [f_y];unfold eQ;rw [p,hT];exact u.1
   have w:a_m s (setKids X (((aY k).drop j).take m))=1:=by
    unfold a_m;rw [mK,p,kids_setKids,v];simp;omega
   have z:J9 s true (setKids X (((aY k).drop j).take m))=vK s (cJ s T) true (((aY k).drop j).take m):=by
    rw [IV,M5,hT,kids_setKids]
   have e1:vK s r true (aY k)=vK s r true ((aY k).take j)+(vK s r true (((aY k).drop j).take m)+vK s r true ((aY k).drop (j+m))):=by
    rw [<- o7, <- o7];congr 1;rw [<- List.drop_drop,List.take_append_drop,List.take_append_drop]
   rw [e1];unfold qV;rw [o7,oK,e_H E,w,z,D9 _ (by rw [NZ,O7];omega),D9 _ (show 0 < (aY k).length by omega)]
   omega
 . obtain ⟨g1,g2,g3,g4,g5⟩:=a_i (show gV r (aY k) 4=j from hj)
   rw [c_z rfl];simp only [O0];obtain⟨i,rfl⟩:∃i,j=i+1:=⟨j - 1,by omega⟩;have hi:i < (aY k).length:=P2
   rw [show i+1 - 1=i by omega]at g4⊢;rw [kid_at g2]at g3;rw [kid_at hi]at g4;rw [kid_at g2,kid_at hi];have A:((aY k).eraseIdx (i+1)).set i (u_4 (aY k)[i] (aY k)[i+1])=(aY k).take i ++ u_4 (aY k)[i] (aY k)[i+1]::(aY k).drop (i+2):=by
    rw [List.eraseIdx_eq_take_drop_succ,O1 hi,O4,List.set_append_right _ _ P8]
    simp [O8 (Nat.le_of_lt hi)]
   rw [A,o7,oK,D9 _ (by rw [NZ,O7];omega),D9 _ (show 0 < (aY k).length by omega)]
   conv=>rhs;rw [e_C hi,NX g2,o7,oK,oK]
   have I:=i_t s hs r true (aY k)[i+1];have hj:a_N s r true (u_4 (aY k)[i] (aY k)[i+1])=a_N s r true (aY k)[i]:=by
    have k1:=D5 (hE _ (NY hi)) g4;have k2:=D5 (hE _ (NY g2)) g3;generalize (aY k)[i]=x at g4 k1⊢;generalize (aY k)[i+1]=y at k2⊢;obtain⟨l1,p1,t1,q1⟩:=x;obtain⟨l2,p2,t2,q2⟩:=y;simp only [aY]at k1 k2;subst k1;subst k2;have:l1=true:=g4;subst this;have F:∀t,eQ r (.mk true p1 t [])=r.text:=fun _=>k_6 rfl
    unfold a_N u_4;simp [F,b8,a_m,IV,aY,vK]
   have e12:(aY k).drop (i+1+1)=(aY k).drop (i+2):=rfl;rw [hj,e12];omega
 . have a:=d P2
   have J:=i_u (show gV r (aY k) 5=j from hj);have hp:=i_t s hs r true (aY k)[j];rw [K6 (.inr rfl)];simp only [O0];rw [c_K a,List.eraseIdx_eq_take_drop_succ,o7,D9 _ P8,D9 _ (show 0 < (aY k).length by omega)]
   omega
 have B:gV r (aY k) 6=j:=hj;rw [AY]at B;rw [e_h rfl];split at B
 . rename_i h0
   have G:=m_p hs b h0.2;rw [D9 _ P6,m_s _ h0.1,O2 h0.1,oK,e_H G];simp only [vK];by_cases f:r.fill=1
   . rw [if_pos f,q_I f]
     have:a_m s (.mk true [] [] [])=1:=rfl;have h2:J9 s true (.mk true [] [] [])=0:=by rw [IV];rfl
     omega
   rw [if_neg f,o_K h0.2 f g];have:a_m s (gX r.fillT)=1+2 * c_3 s (cJ s r.fillT):=by
    unfold a_m;rw [c_I,c_J,D8];rfl
   have h2:J9 s true (gX r.fillT)=0:=by rw [IV,D8];rfl
   omega
 omega
def EV (m:Bool) (n:aX):MT:= .mk m (b8 n) (dJ n) (iJ n) []
def KX:MT ->MT ->MT
 | .mk m l ps t ks, .mk _ _ _ t' ks'=> .mk m l ps (t ++ t') (ks ++ ks')
abbrev r_q:MT:=EV false cV
abbrev tY (ks:List MT) (j:Nat):MT:=ks.getD j r_q
def a_O (r:bK) (ks:List MT) (f:vJ):List MT:=
 if f.1=1∨f.1=5 then ks.eraseIdx f.2.1.toNat
 else if f.1=2 then ks.take f.2.1.toNat ++ ((tY ks f.2.1.toNat).kids ++ ks.drop (f.2.1.toNat+1))
 else if f.1=3 then ks.take f.2.1.toNat ++ (EV true (gX (eQ r (tY ks f.2.1.toNat).bare).2)).setKids ((ks.drop f.2.1.toNat).take f.2.2.toNat)::ks.drop (f.2.1.toNat+f.2.2.toNat)
 else if f.1=4 then (ks.eraseIdx f.2.1.toNat).set (f.2.1.toNat - 1) (KX (tY ks (f.2.1.toNat - 1)) (tY ks f.2.1.toNat))
 else [if r.fill=1 then EV false (.mk true [] [] []) else EV true (gX r.fillT)]
theorem zV (m:Bool) (n:aX) (h:aY n= []):(EV m n).bare=n:=by
 obtain⟨l,ps,t,ks⟩:=n;simp only [aY]at h;subst h;rfl
theorem c_L (x y:MT):(KX x y).bare=u_4 x.bare y.bare:=by
 cases x;cases y
 simp [KX,u_4,MT.bare,MT.bares_map]
theorem KY (ks:List MT) (j:Nat):(tY ks j).bare=cY (ks.map MT.bare) j:=by
 simp only [tY,cY,List.getD,List.getElem?_map];cases ks[j]? with
 | none=>rfl
 | some k=>rfl
theorem BZ {α β :Type} (f: α -> β):∀ (l:List α) (i:Nat),(l.eraseIdx i).map f=(l.map f).eraseIdx i
 | [],i=>by simp
 | x::l,0=>by simp
 | x::l,i+1=>by simp [BZ f l i]
theorem m_u (r:bK) (ks:List MT) (f:vJ):(a_O r ks f).map MT.bare=a_8 r (ks.map MT.bare) f:=by
 unfold a_O a_8;split
 . rw [BZ]
 split
 . rw [List.map_append,List.map_append,List.map_take,List.map_drop, <- MT.kids_bare,KY]
 split
 . unfold qV
   rw [List.map_append,List.map_cons,List.map_take,List.map_drop,MT.bare_setKids,zV _ _ (D8 _),KY,List.map_take,List.map_drop]
 split
 . rw [List.map_set,BZ,c_L,KY,KY]
 split
 . rfl
 rw [List.map_cons,zV _ _ (D8 _)];rfl
def MT.unmark:MT ->MT
 | .mk _ l ps t ks=> .mk false l ps t ks
theorem MT.bare_unmark (T:MT):T.unmark.bare=T.bare:=SV
theorem MT.kids_unmark (T:MT):T.unmark.kids=T.kids:=SV
theorem MT.mark_unmark (T:MT):T.unmark.mark=false:=SV
def MT.fix (s:b5) (T:MT):MT:=T.setKids (a_O (cJ s (dZ T.bare)) T.kids (eV s T.bare))
theorem MT.bare_fix (s:b5) (T:MT):(T.fix s).bare=Go.Proofs.YtmadpclcmjahoaaGreatDoor.setKids T.bare (a_8 (cJ s (dZ T.bare)) (aY T.bare) (eV s T.bare)):=by
 unfold MT.fix;rw [MT.bare_setKids,m_u,MT.kids_bare]
theorem MT.mark_fix (s:b5) (T:MT):(T.fix s).mark=T.mark:=MT.mark_setKids _ _
def MT.look1 (s:b5) (k:MT):MT:=if (eV s k.bare).1=0 then k.unmark else k.fix s
def MT.look (s:b5) (T:MT) (p:List Int):MT:=match T.at_ p with
 | some k=>T.put p (k.look1 s)
 | none=>T
mutual
def muT (s:b5):MT ->Nat
 | .mk m l ps t ks=>if m then c_6 s (.mk l ps t (MT.bares ks)) else muK s ks
def muK (s:b5):List MT ->Nat
 | []=>0
 | k::ks=>muT s k+muK s ks
end
theorem i_w {s:b5} {T:MT} (h:T.mark=true):muT s T=c_6 s T.bare:=by
 cases T;rw [muT];simp only [MT.mark]at h;rw [if_pos h];rfl
theorem h_2 {s:b5} {T:MT} (h:T.mark=false):muT s T=muK s T.kids:=by
 cases T;rw [muT];simp only [MT.mark]at h;rw [h];rfl
mutual
theorem s_4 {s:b5} (hs:eJ s=0):∀T:MT,muT s T <= c_6 s T.bare
 | .mk m l ps t ks=>by
   rw [muT];split
   . exact a8
   have h:=k_7 hs (cJ s (dZ (MT.mk m l ps t ks).bare)) ks;have e:c_6 s (MT.mk m l ps t ks).bare=a_m s (MT.mk m l ps t ks).bare+vK s (cJ s (dZ (MT.mk m l ps t ks).bare)) true (ks.map MT.bare):=by
    unfold c_6;rw [IV,MT.kids_bare];rfl
   rw [e];omega
theorem k_7 {s:b5} (hs:eJ s=0):∀ (r:bK) (ks:List MT),muK s ks <= vK s r true (ks.map MT.bare)
 | r, []=>by simp [muK,vK]
 | r,k::ks=>by
   have h1:=s_4 hs k;have h2:=k_7 hs r ks;have h3:=l_e hs r true k.bare;rw [muK,List.map_cons,oK];unfold c_6 at h1;omega
end
theorem l_g {s:b5}:∀ (ks:List MT) (j:Nat) (hj:j < ks.length) (m:MT),muK s (ks.set j m)+muT s ks[j]=muK s ks+muT s m
 | k::ks,0,hj,m=>by simp [muK];omega
 | k::ks,j+1,hj,m=>by
   have:=l_g (s:=s) ks j VZ m
   simp [muK]at this⊢;omega
def MT.top (T:MT) (p:List Int):Prop:=T.mk? p=true/\∀q,q <+:p ->q≠p ->T.mk? q=false
theorem MT.top_cons {T:MT} {j:Nat} {p:List Int} (h:T.top ((j:Int)::p)):T.mark=false/\∃hj:j < T.kids.length,T.kids[j].top p:=by
 obtain⟨h1,h2⟩:=h;have hm:=h2 [] List.nil_prefix P6;obtain⟨i,hi,hj,h3⟩:=MT.mk_cons_true h1;obtain rfl:j=i:=P2
 refine⟨hm,hj,h3,fun q hq a=> ?_⟩;have:=h2 ((j:Int)::q) (List.cons_prefix_cons.2 ⟨rfl,hq⟩) s_R
 rwa [MT.mk_cons hj]at this
theorem o_M {s:b5} (hs:eJ s=0) {k:MT} (hm:k.mark=true) (hE:dQ k.bare=0):muT s (k.look1 s)+1 <= muT s k:=by
 unfold MT.look1;rw [i_w hm];split
 . rw [h_2 (MT.mark_unmark k),MT.kids_unmark]
   have h:=k_7 hs (cJ s (dZ k.bare)) k.kids;unfold c_6;rw [IV,MT.kids_bare];unfold a_m;omega
 rename_i hf
 rw [i_w (by rw [MT.mark_fix];exact hm),MT.bare_fix];exact o_L hs hE hf
theorem o_N {s:b5}:∀ (p:List Int) (T k m:MT),T.top p ->T.at_ p=some k ->muT s (T.put p m)+muT s k=muT s T+muT s m
 | [],T,k,m,h,ha=>by
   have e:T=k:=YQ
   subst e;simp only [MT.put];omega
 | i::p,T,k,m,h,ha=>by
   obtain⟨j,rfl,hj,h2⟩:=MT.at_cons_some ha;obtain⟨hm,a,h3⟩:=MT.top_cons h;have h4:=o_N (s:=s) p _ k m h3 h2;have h5:=l_g (s:=s) T.kids j hj (T.kids[j].put p m);rw [MT.put_cons hj,h_2 (T:=T.setKids _) (by rw [MT.mark_setKids];exact hm),h_2 hm,MT.kids_setKids]
   omega
theorem d_H {s:b5} (hs:eJ s=0) {T:MT} {p:List Int} (h:T.top p) (hE:dQ T.bare=0):muT s (T.look s p)+1 <= muT s T:=by
 obtain⟨k,ha,hm⟩:=(MT.mk_at p T).1 h.1;have hk:l9 T.bare p=some k.bare:=QK
 unfold MT.look;rw [ha];simp only;have h1:=o_N (s:=s) p T k (k.look1 s) h ha
 have h2:=o_M hs hm (BJ p _ _ hE hk)
 omega
theorem k_8 {x y:aX} (hx:dQ x=0) (hy:dQ y=0) (lx:b8 x=true) (ly:b8 y=true):dQ (u_4 x y)=0:=by
 have k1:=D5 hx lx;have k2:=D5 hy ly;obtain⟨l1,p1,t1,q1⟩:=x;obtain⟨l2,p2,t2,q2⟩:=y;simp only [aY]at k1 k2;subst k1;subst k2;obtain⟨g1,g2,g3,g4⟩:=D4.1 (qQ.1 hx).1;obtain⟨f1,f2,f3,f4⟩:=D4.1 (qQ.1 hy).1;have:l1=true:=lx;subst this;refine qQ.2 ⟨D4.2 ⟨g1,fun _=>rfl,(fun h=>by cases h), ?_⟩,by simp⟩;unfold b_2 at g4 f4⊢;rw [List.any_append];cases h1:t1.any (fun c=> !kZ c)with
 | true=>rw [h1]at g4;simp at g4
 | false=>
   cases h2:t2.any (fun c=> !kZ c)with
   | true=>rw [h2]at f4;simp at f4
   | false=>rfl
theorem q_J {s:b5} {k:aX} (hs:eJ s=0) (hn:dQ k=0) (hf:(eV s k).1≠0):∀x∈a_8 (cJ s (dZ k)) (aY k) (eV s k),dQ x=0:=by
 have hE:=sQ hn;have hw:=k_4 hs hf;rcases oV s k with h | ⟨c,j,hl,h1,h6,hj,he,b,h4,d⟩
 . rw [h]at hf;exact absurd rfl hf
 rw [he]at hw⊢;generalize cJ s (dZ k)=r at hj hw⊢;unfold i_p at hw;simp only [Int.toNat_natCast]at hw;obtain rfl | rfl | rfl | rfl | rfl | rfl:c=1∨c=2∨c=3∨c=4∨c=5∨c=6:=P2
 . rw [K6 (.inl rfl)]
   exact fun x hx=>hE x (List.mem_of_mem_eraseIdx hx)
 . have a:=b P2
   rw [e_g rfl];simp only [Int.toNat_natCast];rw [kid_at a];intro x hx;rcases List.mem_append.1 hx with hx | hx
   . exact hE x (List.mem_of_mem_take hx)
   rcases List.mem_append.1 hx with hx | hx
   . exact sQ (hE _ (List.getElem_mem a)) x hx
   exact hE x (List.mem_of_mem_drop hx)
 . rw [b_b rfl]
   simp only [Int.toNat_natCast];exact f_Q (hw.1 rfl) (c_I _) hE
 . obtain ⟨g1,g2,g3,g4,g5⟩:=a_i (show gV r (aY k) 4=j from hj)
   rw [c_z rfl];simp only [Int.toNat_natCast];intro x hx;rcases List.mem_or_eq_of_mem_set hx with hx | rfl
   . exact hE x (List.mem_of_mem_eraseIdx hx)
   refine k_8 ?_ ?_ g4 g3
   . rw [kid_at (show j - 1 < (aY k).length by omega)];exact hE _ (List.getElem_mem _)
   rw [kid_at g2];exact hE _ (List.getElem_mem _)
 . rw [K6 (.inr rfl)]
   exact fun x hx=>hE x (List.mem_of_mem_eraseIdx hx)
 rw [e_h rfl];intro x hx;obtain rfl:=List.mem_singleton.1 hx
 split
 . exact a_j
 rename_i h;exact hw.2 rfl h
theorem g_7 {s:b5} {k:aX} (hf:(eV s k).1≠0):b8 k=false:=by
 rcases oV s k with h | ⟨c,j,hl, -⟩
 . rw [h]at hf;exact absurd rfl hf
 exact hl
theorem i_x {s:b5} (hs:eJ s=0) {k:MT} (hE:dQ k.bare=0):dQ (k.look1 s).bare=0:=by
 unfold MT.look1;split
 . rw [MT.bare_unmark];exact hE
 rename_i hf
 rw [MT.bare_fix];exact DZ hE (q_J hs hE hf) (fun h=>by rw [g_7 hf]at h;cases h)
theorem qZ {s:b5} (hs:eJ s=0) {T:MT} (p:List Int) (hE:dQ T.bare=0):dQ (T.look s p).bare=0:=by
 unfold MT.look;cases ha:T.at_ p with
 | none=>exact hE
 | some k=>
   have hk:l9 T.bare p=some k.bare:=QK
   rw [MT.bare_put p T k _ ha];exact c_x p _ _ _ hE hk (i_x hs (BJ p _ _ hE hk))
def MT.wrong (s:b5) (T:MT) (p:List Int):Nat:=match T.at_ p with
 | some k=>if (eV s k.bare).1=0 then 0 else 1
 | none=>0
inductive f_z (s:b5):MT ->MT ->Nat ->Nat ->Prop
 | done {T:MT} (h:∀q,T.mk? q=false):f_z s T T 0 0
 | step {T A:MT} {p:List Int} {c d:Nat} (h:T.top p) (r:f_z s (T.look s p) A c d):f_z s T A (c+1) (d+T.wrong s p)
theorem MT.at_put_other:∀ (p q:List Int) (T k m:MT),T.at_ p=some k ->¬p <+:q ->¬q <+:p ->(T.put p m).at_ q=T.at_ q
 | [],q,T,k,m,ha,h1,h2=>absurd List.nil_prefix h1
 | i::p, [],T,k,m,ha,h1,h2=>absurd List.nil_prefix h2
 | i ::p,c::q,T,k,m,ha,h1,h2=>by
   obtain⟨j,rfl,hj,a⟩:=MT.at_cons_some ha;rw [MT.put_cons hj];by_cases hc:c=(j:Int)
   . subst hc
     have b:j < (T.setKids (T.kids.set j (T.kids[j].put p m))).kids.length:=S9
     rw [MT.at_cons b,MT.at_cons hj];simp only [MT.kids_setKids,List.getElem_set_self];exact MT.at_put_other p q _ k m a (fun h=>h1 (List.cons_prefix_cons.2 ⟨rfl,h⟩)) (fun h=>h2 (List.cons_prefix_cons.2 ⟨rfl,h⟩))
   conv=>lhs;unfold MT.at_
   conv=>rhs;unfold MT.at_
   split
   . rw [MT.kids_setKids,List.getElem?_set_ne P2]
   rfl
theorem MT.put_comm:∀ (p q:List Int) (T k k2 m m2:MT),T.at_ p=some k ->T.at_ q=some k2 ->¬p <+:q ->¬q <+:p ->(T.put p m).put q m2=(T.put q m2).put p m
 | [],q,T,k,k2,m,m2,ha,hb,h1,h2=>absurd List.nil_prefix h1
 | i::p, [],T,k,k2,m,m2,ha,hb,h1,h2=>absurd List.nil_prefix h2
 | i ::p,c::q,T,k,k2,m,m2,ha,hb,h1,h2=>by
   obtain⟨j,rfl,hj,a⟩:=MT.at_cons_some ha;obtain⟨e,rfl,he,b⟩:=MT.at_cons_some hb;rw [MT.put_cons hj,MT.put_cons he];have d:j < (T.setKids (T.kids.set e (T.kids[e].put q m2))).kids.length:=S9
   have f:e < (T.setKids (T.kids.set j (T.kids[j].put p m))).kids.length:=by rw [MT.kids_setKids];simpa using he
   rw [MT.put_cons d,MT.put_cons f,MT.setKids_setKids,MT.setKids_setKids];simp only [MT.kids_setKids];by_cases hc:e=j
   . subst hc
     simp only [List.getElem_set_self,List.set_set];rw [MT.put_comm p q _ k k2 m m2 a b (fun h=>h1 (List.cons_prefix_cons.2 ⟨rfl,h⟩)) (fun h=>h2 (List.cons_prefix_cons.2 ⟨rfl,h⟩))]
   rw [List.getElem_set_ne (Ne.symm hc),List.getElem_set_ne hc,List.set_comm _ _ (Ne.symm hc)]
theorem MT.top_apart {T:MT} {p q:List Int} (hp:T.top p) (hq:T.top q) (a:p≠q):¬p <+:q/\¬q <+:p:=
 ⟨(fun h=>by have:=hq.2 p h a;rw [hp.1]at this;cases this),(fun h=>by have:=hp.2 q h (Ne.symm a);rw [hq.1]at this;cases this)⟩
theorem MT.top_look {s:b5} {T:MT} {p q:List Int} (hp:T.top p) (hq:T.top q) (i:p≠q):(T.look s p).top q:=by
 obtain⟨k,ha,hm⟩:=(MT.mk_at p T).1 hp.1;obtain⟨h1,h2⟩:=MT.top_apart hp hq i;unfold MT.look;rw [ha];simp only;refine⟨?_,fun x hx d=> ?_⟩
 . rw [MT.mk_put p q T k _ ha h1 (fun h=>absurd h h2)];exact hq.1
 have f:¬p <+:x:=fun h=>h1 (h.trans hx)
 by_cases g:x <+:p
 . -- x stands above p:no mark is there
   have l:x≠p:=fun e=>f (by rw [e];exact List.prefix_rfl)
   obtain⟨b,rfl⟩:=g;have hb:b≠ []:=fun e=>l (by simp [e])
   obtain⟨k1,a,m⟩:∃k1,T.at_ x=some k1/\k1.at_ b=some k:=by
    rw [MT.at_append]at ha;cases hx1:T.at_ x with
    | none=>rw [hx1]at ha;cases ha
    | some k1=>rw [hx1]at ha;exact⟨k1,rfl,ha⟩
   have hf:=hq.2 x hx d;rw [MT.put_append x b T k1 _ a];have e1:=MT.mk_app x [] (T.put x (k1.put b (k.look1 s))) _ (MT.at_put x T k1 _ a)
   rw [List.append_nil]at e1;have e2:=MT.mk_app x [] T k1 a
   rw [List.append_nil]at e2;rw [e1];rw [e2]at hf;cases b with
   | nil=>exact absurd rfl hb
   | cons c b=>
     obtain⟨j,rfl,hj, -⟩:=MT.at_cons_some m;rw [MT.put_cons hj,MT.mk_nil,MT.mark_setKids];exact hf
 rw [MT.mk_put p x T k _ ha f (fun h=>absurd h g)];exact hq.2 x hx d
theorem MT.look_comm {s:b5} {T:MT} {p q:List Int} (hp:T.top p) (hq:T.top q) (a:p≠q):(T.look s p).look s q=(T.look s q).look s p:=by
 obtain⟨k,ha,hm⟩:=(MT.mk_at p T).1 hp.1;obtain⟨k2,hb,b⟩:=(MT.mk_at q T).1 hq.1;obtain⟨h1,h2⟩:=MT.top_apart hp hq a;have e1:T.look s p=T.put p (k.look1 s):=t_p
 have e2:T.look s q=T.put q (k2.look1 s):=by unfold MT.look;rw [hb]
 rw [e1,e2];unfold MT.look;rw [MT.at_put_other p q T k _ ha h1 h2,MT.at_put_other q p T k2 _ hb h2 h1,ha,hb];exact MT.put_comm p q T k k2 _ _ ha hb h1 h2
theorem MT.top_above:∀ (q:List Int) (T:MT),T.mk? q=true ->∃p,T.top p/\p <+:q
 | [],T,h=>⟨[],⟨h,fun q hq a=>absurd (List.prefix_nil.1 hq) a⟩,List.nil_prefix⟩
 | i ::q,T,h=>by
   cases hm:T.mark with
   | true=>exact⟨[],⟨hm,fun q hq a=>absurd (List.prefix_nil.1 hq) a⟩,List.nil_prefix⟩
   | false=>
     obtain⟨j,rfl,hj,h2⟩:=MT.mk_cons_true h;obtain⟨p,hp,b⟩:=MT.top_above q _ h2;refine⟨(j:Int)::p,⟨by rw [MT.mk_cons hj];exact hp.1,fun x hx a=> ?_⟩,List.cons_prefix_cons.2 ⟨rfl,b⟩⟩
     cases x with
     | nil=>exact hm
     | cons c x=>
       obtain⟨rfl,d⟩:=List.cons_prefix_cons.1 hx;rw [MT.mk_cons hj];exact hp.2 x d s_R
theorem MT.wrong_look {s:b5} {T:MT} {p q:List Int} (hp:T.top p) (hq:T.top q) (a:p≠q):(T.look s p).wrong s q=T.wrong s q:=by
 obtain⟨k,ha,hm⟩:=(MT.mk_at p T).1 hp.1;obtain⟨h1,h2⟩:=MT.top_apart hp hq a;have e1:T.look s p=T.put p (k.look1 s):=t_p
 rw [e1];unfold MT.wrong;rw [MT.at_put_other p q T k _ ha h1 h2]
theorem e_I {s:b5} (hs:eJ s=0):∀ (m:Nat) (T:MT),muT s T <= m ->dQ T.bare=0 ->∃A c d,f_z s T A c d/\c <= muT s T
 | m,T,hm,hE=>by
   by_cases h:∀q,T.mk? q=false
   . exact⟨T,0,0, .done h,Nat.zero_le _⟩
   obtain⟨q,hq⟩:∃q,T.mk? q=true:=by
    apply Classical.byContradiction
    intro hn;exact h fun q=>by
     cases hq:T.mk? q with
     | false=>rfl
     | true=>exact absurd ⟨q,hq⟩ hn
   obtain⟨p,hp, -⟩:=MT.top_above q T hq;have hl:=d_H hs hp hE
   cases m with
   | zero=>omega
   | succ m=>
     obtain⟨A,c,d,hr,hc⟩:=e_I hs m (T.look s p) P2 (qZ hs p hE);exact⟨A,c+1,_, .step hp hr,by omega⟩
theorem M7 {s:b5} (hs:eJ s=0):∀ (m:Nat) (T A B:MT) (a b x y:Nat),muT s T <= m ->dQ T.bare=0 ->f_z s T A a x ->f_z s T B b y ->A=B/\a=b/\x=y
 | m, T, A,B,a,b,x,y,hm,hE,hA,hB=>by
   cases hA with
   | done h=>
     cases hB with
     | done h'=>exact⟨rfl,rfl,rfl⟩
     | step h' r'=>have:=h'.1;rw [h]at this;cases this
   | step hp rA=>
     rename_i p c x
     cases hB with
     | done h'=>have:=hp.1;rw [h']at this;cases this
     | step hq rB=>
       rename_i q d y
       have hl:=d_H hs hp hE;have j:=d_H hs hq hE
       cases m with
       | zero=>omega
       | succ m=>
         by_cases g:p=q
         . subst g
           obtain⟨rfl,rfl,rfl⟩:=M7 hs m _ _ _ _ _ _ _ P2 (qZ hs p hE) rA rB;exact⟨rfl,rfl,rfl⟩
         have t1:=MT.top_look (s:=s) hp hq g;have t2:=MT.top_look (s:=s) hq hp (Ne.symm g);obtain⟨C,e,f,hC, -⟩:=e_I hs _ ((T.look s p).look s q) (a8) (qZ hs q (qZ hs p hE));have i:=hC;rw [MT.look_comm hp hq g]at i;have r1:=f_z.step t1 hC
         have r2:=f_z.step t2 i;rw [MT.wrong_look hp hq g]at r1;rw [MT.wrong_look hq hp (Ne.symm g)]at r2;obtain⟨rfl,rfl,rfl⟩:=M7 hs m _ _ _ _ _ _ _ P2 (qZ hs p hE) rA r1;obtain⟨rfl,rfl,rfl⟩:=M7 hs m _ _ _ _ _ _ _ P2 (qZ hs q hE) rB r2;exact⟨rfl,rfl,by omega⟩
def m_v (T T':MT) (o:C9):Prop:= ∀q',T'.mk? q'=true ↔ ∃q,T.mk? q=true/\nJ q o=some q'
theorem k_9 (x:Int) (r:List Int):bX (x::r)=(!D3 x && bX r):=by simp [bX]
theorem iZ {j:Nat} (h:j <= 1048576):D3 (j:Int)=false:=by unfold D3;simp;omega
theorem a_n:∀ (q:List Int) (n m:aX),l9 n q=some m ->n.wt <= 1048576 ->bX q=true
 | [],n,m,h,hw=>rfl
 | i::q,n,m,h,hw=>by
   obtain⟨j,rfl,hj,h2⟩:=jQ h;obtain⟨l,ps,t,ks⟩:=n;simp only [aY]at hj h2;have h3:=jJ (NY hj)
   have h4:=i7 ks;simp only [aX.wt]at hw;rw [k_9,iZ P2,a_n q _ m h2 P2]
   rfl
theorem MT.small {T:MT} {q:List Int} (h:T.mk? q=true) (hw:T.bare.wt <= 1048576):bX q=true:=by
 obtain⟨t,h1, -⟩:=(MT.mk_at q T).1 h;refine a_n q T.bare t.bare ?_ hw;rw [MT.at_bare,h1];rfl
theorem uV {a:List Int} (ha:a≠ []):cZ a []=0:=by
 cases a with
 | nil=>exact absurd rfl ha
 | cons x a=>simp [cZ,kJ,F6]
theorem AJ (x y:Int) (r:List Int):cZ [x] (y::r)=if x=y then (if r= [] then 3 else 2) else if x < y then 1 else 0:=by
 unfold cZ kJ F6;by_cases h:x=y
 . subst h
   cases r with
   | nil=>simp
   | cons z r=>simp [g9]
 simp [g9,h]
theorem a_W {x y z:Int} {r:List Int} (h:x≠y):cZ [x,z] (y::r)=0:=by
 unfold cZ kJ F6;simp [g9,h]
theorem f_A (x z:Int) (r:List Int):cZ [x,z] (x::r)=cZ [z] r:=a_l (p:= [x]) (a:= [z]) (b:=r) P6
theorem AK (x d:Int) (r:List Int):fJ (x::r) 0 d=(x+d)::r:=by simp [fJ]
theorem g_8 (x y d:Int) (r:List Int):fJ (x::y::r) 1 d=x::(y+d)::r:=by simp [fJ]
theorem C0 (x y:Int) (r:List Int):fX (y::r) [x]=if x <= y then (y+1)::r else y::r:=by
 show (if cZ [x] (y::r)=0 then y::r else fJ (y::r) 0 1)=_
 by_cases h1:x=y
 . have h:cZ [x] (y::r)≠0:=by
    rw [AJ,if_pos h1];by_cases hr:r= []
    . rw [if_pos hr];decide
    rw [if_neg hr];decide
   rw [if_neg h,if_pos (show x <= y by omega)];exact AK _ _ _
 by_cases h2:x < y
 . have h:cZ [x] (y::r)=1:=by rw [AJ,if_neg h1,if_pos h2]
   rw [h,if_neg (show ¬ (1:Nat)=0 by decide),if_pos (show x <= y by omega)];exact AK _ _ _
 have h:cZ [x] (y::r)=0:=by rw [AJ,if_neg h1,if_neg h2]
 rw [h,if_pos rfl,if_neg (show ¬x <= y by omega)]
def C1 (p:List Int) (o:C9):Bool:=bX p && (bX o.path && (bX o.dest && !D3 o.pos))
theorem m_w {p:List Int} {o:C9} (hs:C1 p o=true) (hp:o.path≠ []) (h:o.kind=1):nJ p o=some (fX p o.path):=by
 unfold nJ;unfold C1 at hs;rw [hs,if_neg P6,if_neg hp,if_pos h]
theorem m_x {p:List Int} {o:C9} (hs:C1 p o=true) (hp:o.path≠ []) (h:o.kind=2):nJ p o=if cZ o.path p=2∨cZ o.path p=3 then none else if cZ o.path p=1 then some (fJ p (o.path.length - 1) (-1)) else some p:=by
 unfold nJ;unfold C1 at hs;rw [hs,if_neg P6,if_neg hp,if_neg P2,if_pos h]
theorem i_y {p:List Int} {o:C9} (hs:C1 p o=true) (hp:o.path≠ []) (h:o.kind=3):nJ p o=if jK o.path=0 then none else if cZ o.path p=2 then some (fJ (fJ p o.path.length o.pos) (o.path.length - 1) (-1))
 else if cZ o.path p=3∨cZ o.path p=1 then some (fJ p (o.path.length - 1) (-1)) else some p:=by
 unfold nJ;unfold C1 at hs;rw [hs,if_neg P6,if_neg hp,if_neg P2,if_neg P2,if_pos h]
theorem b_k {p:List Int} {o:C9} (hs:C1 p o=true) (hp:o.path≠ []) (h:o.kind=5):nJ p o=if cZ o.path p=3∨cZ o.path p=2 then some (o.dest ++ p.drop o.path.length) else some (fX (if cZ o.path p=1 then fJ p (o.path.length - 1) (-1) else p) o.dest):=by
 unfold nJ;unfold C1 at hs;rw [hs,if_neg P6,if_neg hp,if_neg P2,if_neg P2,if_neg P2,if_neg P2,if_pos h]
theorem h_3:D3 0=false:=P9
theorem rY (x:Int):bX [x]= !D3 x:=by simp [bX]
theorem KZ (x y:Int):bX [x,y]=(!D3 x && !D3 y):=by simp [bX]
theorem a_H:bX []=true:=rfl
theorem IX (x:Int):fX [] [x]= []:=by unfold fX;rw [uV P6];rfl
theorem c_7 {j:Nat} {q:List Int} {x:aX} (hj:j <= 1048576) (hq:bX q=true):nJ q (fZ.full ⟨2, [(j:Int)], [],0,x, []⟩)=
 match q with
 | []=>some []
 | c::r=>if c=j then none else if (j:Int) < c then some ((c - 1)::r) else some (c::r):=by
 rw [m_x t_V P6 rfl]
 cases q with
 | nil=>rw [uV P6];simp
 | cons c r=>
   simp only [AJ];by_cases h1:(j:Int)=c
   . subst h1
     by_cases hr:r= []
     . simp [hr]
     simp [hr]
   rw [if_neg h1,if_neg (Ne.symm h1)]
   by_cases h2:(j:Int) < c
   . simp only [h2,if_true]
     simp [AK,Int.sub_eq_add_neg]
   simp [h2]
theorem o_O {k:MT} {j:Nat} {x:aX} (hj:j <= 1048576) (hs:∀q,k.mk? q=true ->bX q=true):m_v k (k.setKids (k.kids.eraseIdx j)) (fZ.full ⟨2, [(j:Int)], [],0,x, []⟩):=by
 intro q';constructor
 . intro h
   cases q' with
   | nil=>
     have h2:k.mk? []=true:=S8
     exact⟨[],h2,c_7 hj (hs _ h2)⟩
   | cons c r=>
     obtain⟨i,rfl,hi,h2⟩:=MT.mk_cons_true h;simp only [MT.kids_setKids]at hi h2;rw [List.getElem_eraseIdx]at h2;split at h2
     . rename_i a
       have h3:k.mk? ((i:Int)::r)=true:=by rw [MT.mk_cons t_6];exact h2
       refine⟨_,h3, ?_⟩;rw [c_7 hj (hs _ h3)];simp only;rw [if_neg P2,if_neg P2]
     rename_i b
     have hl:i+1 < k.kids.length:=t_6
     have h3:k.mk? (((i+1:Nat):Int)::r)=true:=by rw [MT.mk_cons hl];exact h2
     refine⟨_,h3, ?_⟩;rw [c_7 hj (hs _ h3)];simp only;rw [if_neg P2,if_pos P2,show (((i+1:Nat):Int) - 1)=(i:Int)by omega]
 rintro⟨q,h1,h2⟩;rw [c_7 hj (hs _ h1)]at h2;cases q with
 | nil=>
   have:q'= []:=WJ
   subst this;rw [MT.mk_nil]at h1⊢;rwa [MT.mark_setKids]
 | cons c r=>
   obtain⟨i,rfl,hi,h3⟩:=MT.mk_cons_true h1;simp only at h2;split at h2
   . cases h2
   rename_i d
   split at h2
   . rename_i a
     obtain rfl:((i:Int) - 1)::r=q':=R5
     rw [show ((i:Int) - 1)=((i - 1:Nat):Int)by omega];have hl:i - 1 < (k.setKids (k.kids.eraseIdx j)).kids.length:=s_Z
     rw [MT.mk_cons hl];simp only [MT.kids_setKids];rw [List.getElem_eraseIdx,dif_neg P2]
     simpa [show i - 1+1=i by omega]using h3
   rename_i b
   obtain rfl:(i:Int)::r=q':=R5
   have hl:i < (k.setKids (k.kids.eraseIdx j)).kids.length:=s_Z
   rw [MT.mk_cons hl];simp only [MT.kids_setKids];rw [List.getElem_eraseIdx,dif_pos P2];exact h3
def M8 (ks:List MT) (i:Nat) (m:MT):List MT:=ks.take i ++ m::ks.drop i
theorem a_o {ks:List MT} {i:Nat} {m:MT} (hi:i <= ks.length) (c:Nat):(M8 ks i m)[c]? =if c < i then ks[c]? else if c=i then some m else ks[c - 1]? :=by
 unfold M8;have hl:(ks.take i).length=i:=P8
 split
 . rename_i h
   rw [List.getElem?_append_left P2,List.getElem?_take_of_lt h]
 rename_i h
 rw [OX P2,hl]
 split
 . rename_i h2;subst h2;simp
 rename_i h2
 rw [show c - i=(c - 1 - i)+1 by omega,List.getElem?_cons_succ,List.getElem?_drop]
 congr 1;omega
theorem gZ {T:MT} {i:Nat} {r:List Int}:T.mk? ((i:Int)::r)=match T.kids[i]? with | some k=>k.mk? r | none=>false:=by
 conv=>lhs;unfold MT.mk?
 rw [if_pos P2,O0]
 try rfl
theorem c_8 {j:Nat} {q:List Int} {x:aX} (hj:j <= 1048576) (hq:bX q=true):nJ q (fZ.full ⟨1, [(j:Int)], [],0,x, []⟩)=
 match q with
 | []=>some []
 | c::r=>if (j:Int) <= c then some ((c+1)::r) else some (c::r):=by
 rw [m_w t_V P6 rfl]
 cases q with
 | nil=>simp [IX]
 | cons c r=>
   simp only [C0];split <;> rfl
theorem o_P {k m:MT} {j:Nat} {x:aX} (hj:j <= 1048576) (b:j <= k.kids.length) (hm:∀r,m.mk? r=false) (hs:∀q,k.mk? q=true ->bX q=true):m_v k (k.setKids (M8 k.kids j m)) (fZ.full ⟨1, [(j:Int)], [],0,x, []⟩):=by
 intro q';constructor
 . intro h
   cases q' with
   | nil=>
     have h2:k.mk? []=true:=S8
     exact⟨[],h2,c_8 hj (hs _ h2)⟩
   | cons c r=>
     obtain⟨i,rfl,hi, -⟩:=MT.mk_cons_true h;rw [gZ,MT.kids_setKids,a_o b]at h;split at h
     . rename_i k0 a
       split at a
       . rename_i d
         have h3:k.mk? ((i:Int)::r)=true:=by rw [gZ,a];exact h
         exact⟨_,h3,by rw [c_8 hj (hs _ h3)];simp only;rw [if_neg P2]⟩
       split at a
       . injection a with e
         rw [<- e,hm r]at h;cases h
       rename_i h1 h2
       have h3:k.mk? (((i - 1:Nat):Int)::r)=true:=by rw [gZ,a];exact h
       exact⟨_,h3,by rw [c_8 hj (hs _ h3)];simp only;rw [if_pos P2,show (((i - 1:Nat):Int)+1)=(i:Int)by omega]⟩
     cases h
 rintro⟨q,h1,h2⟩;rw [c_8 hj (hs _ h1)]at h2;cases q with
 | nil=>
   have:q'= []:=WJ
   subst this;rw [MT.mk_nil]at h1⊢;rwa [MT.mark_setKids]
 | cons c r=>
   obtain⟨i,rfl,hi, -⟩:=MT.mk_cons_true h1;rw [gZ]at h1;simp only at h2;split at h2
   . rename_i f
     obtain rfl:((i:Int)+1)::r=q':=R5
     rw [show ((i:Int)+1)=((i+1:Nat):Int)by omega,gZ,MT.kids_setKids,a_o b,if_neg P2,if_neg P2];exact h1
   rename_i d
   obtain rfl:(i:Int)::r=q':=R5
   rw [gZ,MT.kids_setKids,a_o b,if_pos P2];exact h1
end Go.Proofs.YtmadpclcmjahoaaGreatDoor
