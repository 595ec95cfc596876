/- Parts of the proof: 21. -/
import Derived.Test.YtmadpclcmjahoaaGreatDoorFN1
import Derived.Test.YtmadpclcmjahoaaGreatDoorFN20
import Derived.Test.YtmadpclcmjahoaaGreatDoorFN7
import Derived.Test.YtmadpclcmjahoaaGreatDoorFN16
import Derived.Test.YtmadpclcmjahoaaGreatDoorFN11
set_option linter.unusedVariables false
set_option linter.unusedSimpArgs false
set_option maxHeartbeats 8000000
set_option maxRecDepth 100000
namespace Go.Proofs.YtmadpclcmjahoaaGreatDoor
open Go.RowKit Go.Redl
theorem f_H (x y:Int) (a b:List Int):eZ (x::a) (y::b)=if x=y then 1+eZ a b else 0:=by
 conv=>lhs;unfold eZ
theorem a_3:∀ (p a b:List Int),eZ (p ++ a) (p ++ b)=p.length+eZ a b
 | [],a,b=>by simp
 | x::p,a,b=>by
   rw [List.cons_append,List.cons_append,f_H,if_pos rfl,a_3 p a b]
   simp;omega
theorem g_W (p a b:List Int):jK (p ++ a) (p ++ b)=jK a b:=by
 unfold jK
 rw [a_3]
 simp
theorem a_F (p b:List Int) (k:Nat) (d:Int):(p ++ b).getD (p.length+k) d=b.getD k d:=by
 simp [List.getD,List.getElem?_append_right]
theorem i_J (p a b:List Int):B6 (p ++ a) (p ++ b)=B6 a b:=by
 unfold B6
 rw [a_3,a_F,a_F]
 simp only [List.length_append]
 rw [show decide (p.length+eZ a b+1=p.length+a.length)=decide (eZ a b+1=a.length)from decide_eq_decide.2 (by omega),show decide (p.length+eZ a b < p.length+b.length)=decide (eZ a b < b.length)from decide_eq_decide.2 (by omega)]
theorem K2 {p a b:List Int} (ha:a≠ []):cJ (p ++ a) (p ++ b)=cJ a b:=by
 unfold cJ
 rw [if_neg (by simp [ha]),if_neg ha,g_W,i_J]
 simp
theorem c_F (p b:List Int) (k:Nat) (d:Int):dV (p ++ b) (p.length+k) d=p ++ dV b k d:=by
 unfold dV
 rw [a_F,List.set_append_right _ _ (by omega)]
 simp
theorem EX {p a b:List Int} (ha:a≠ []):eJ (p ++ b) (p ++ a)=p ++ eJ b a:=by
 unfold eJ
 rw [K2 ha]
 split
 . rfl
 . have:0 < a.length:=List.length_pos_iff.2 ha
   rw [List.length_append,show p.length+a.length - 1=p.length+(a.length - 1)by omega,c_F]
theorem L4 (a b:List Int):bQ (a ++ b)=(bQ a && bQ b):=by simp [bQ]
theorem d_J {p a:List Int} (ha:a≠ []):iJ (p ++ a)=iJ a:=by
 rcases List.eq_nil_or_concat a with h | ⟨r,y,rfl⟩
 . exact absurd h ha
 . rw [List.concat_eq_append, <- List.append_assoc,vV,vV]
def yK.under (o:yK) (p:List Int):yK:={ o with path:=p ++ o.path,dest:=if o.kind=5 then p ++ o.dest else o.dest }
theorem L5 {p b:List Int} {o:yK} (hp:bQ p=true) (ha:o.path≠ []) (hd:o.kind=5 ->o.dest≠ []):kY (p ++ b) (o.under p)=(kY b o).map (p ++ ·):=by
 unfold kY yK.under
 have hpos:0 < o.path.length:=List.length_pos_iff.2 ha
 have e1:p.length+o.path.length - 1=p.length+(o.path.length - 1):=by omega
 simp only [L4,hp,Bool.true_and]
 have hds:bQ (if o.kind=5 then p ++ o.dest else o.dest)=bQ o.dest:=by
  split
  . rw [L4,hp];rfl
  . rfl
 rw [hds]
 split
 . rfl
 . rw [if_neg (by simp [ha])]
   simp only [K2 ha,EX ha,d_J ha,List.length_append,e1,c_F,a_F]
   split
   . rfl
   . split
     . split
       . rfl
       . split <;> rfl
     . split
       . split
         . rfl
         . split
           . rfl
           . split <;> rfl
       . split
         . split
           . rfl
           . split <;> rfl
         . split
           . rename_i h5
             split
             . show some _=some _
               rw [show p.length+o.path.length=p.length+o.path.length from rfl,List.drop_append,List.drop_eq_nil_of_le (by omega),show p.length+o.path.length - p.length=o.path.length by omega]
               simp
             . split <;> (rw [EX (hd h5)];rfl)
           . rfl
theorem I3 {p q a:List Int} (ha:a≠ []) (hq:¬p <+:q):cJ (p ++ a) q=0:=by
 have hlt :eZ (p ++ a) q < p.length:=by
  rcases Nat.lt_or_ge (eZ (p ++ a) q) p.length with h | h
  . exact h
  . exfalso
    refine hq ?_
    clear hq
    induction p generalizing q with
    | nil=>exact List.nil_prefix
    | cons x p ih=>
      cases q with
      | nil=>simp [eZ]at h
      | cons y q=>
        rw [List.cons_append]at h
        unfold eZ at h
        split at h
        . rename_i e
          rw [List.cons_prefix_cons]
          exact⟨e,ih (by simp at h;omega)⟩
        . simp at h
 unfold cJ
 rw [if_neg (by simp [ha]),if_neg]
 . have h1:jK (p ++ a) q=false:=by
    unfold jK
    rw [show decide (eZ (p ++ a) q=(p ++ a).length)=false from decide_eq_false (by simp;omega)]
    simp
   have hpos:0 < a.length:=List.length_pos_iff.2 ha
   have h2:B6 (p ++ a) q=false:=by
    unfold B6
    rw [show decide (eZ (p ++ a) q+1=(p ++ a).length)=false from decide_eq_false (by simp;omega)]
    simp
   rw [h1,h2];rfl
 . intro e
   exact hq ⟨a,e⟩
theorem b_x {p q:List Int} {o:yK} (hs:bQ q=true) (hp:bQ p=true) (ho:bQ o.path=true) (hod:bQ o.dest=true) (hpos:AJ o.pos=false) (ha:o.path≠ []) (hd:o.kind=5 ->o.dest≠ []) (h3:o.kind=3 ->iJ o.path≠0) (hq:¬p <+:q):
 kY q (o.under p)=some q:=by
 unfold kY yK.under
 have hds:bQ (if o.kind=5 then p ++ o.dest else o.dest)=true:=by
  split
  . rw [L4,hp,hod];rfl
  . exact hod
 simp only [L4,hp,ho,hds,hs,hpos,Bool.true_and,Bool.not_false,Bool.not_true,Bool.false_eq_true,if_false,I3 ha hq,d_J ha]
 rw [if_neg (by simp [ha])]
 unfold eJ
 simp only [I3 ha hq,if_true]
 split
 . rfl
 . split
   . simp
   . split
     . rename_i h;rw [if_neg (h3 h)];simp
     . split
       . simp
       . split
         . rename_i h5
           simp [I3 (hd h5) hq]
         . rfl
inductive MT where
 | mk (m:Bool) (l:Bool) (ps:List eK) (t:List Int) (ks:List MT)
def MT.mark:MT ->Bool
 | .mk m _ _ _ _=>m
def MT.kids:MT ->List MT
 | .mk _ _ _ _ ks=>ks
def MT.setKids:MT ->List MT ->MT
 | .mk m l ps t _,ks=> .mk m l ps t ks
mutual
def MT.bare:MT ->aK
 | .mk _ l ps t ks=> .mk l ps t (MT.bares ks)
def MT.bares:List MT ->List aK
 | []=> []
 | k::ks=>k.bare::MT.bares ks
end
theorem MT.bares_map:∀ks:List MT,MT.bares ks=ks.map MT.bare
 | []=>rfl
 | k::ks=>by rw [MT.bares,MT.bares_map ks];rfl
theorem MT.kids_bare (T:MT):aQ T.bare=T.kids.map MT.bare:=by
 cases T;simp only [MT.bare,aQ,MT.kids,MT.bares_map]
theorem MT.bare_setKids (T:MT) (ks:List MT):(T.setKids ks).bare=Go.Proofs.YtmadpclcmjahoaaGreatDoor.setKids T.bare (ks.map MT.bare):=by
 cases T;simp only [MT.bare,MT.setKids,Go.Proofs.YtmadpclcmjahoaaGreatDoor.setKids,MT.bares_map]
theorem MT.kids_setKids (T:MT) (ks:List MT):(T.setKids ks).kids=ks:=by cases T;rfl
theorem MT.mark_setKids (T:MT) (ks:List MT):(T.setKids ks).mark=T.mark:=by cases T;rfl
theorem MT.setKids_setKids (T:MT) (a b:List MT):(T.setKids a).setKids b=T.setKids b:=by cases T;rfl
theorem MT.setKids_self (T:MT):T.setKids T.kids=T:=by cases T;rfl
def MT.at_:MT ->List Int ->Option MT
 | T, []=>some T
 | T,i::p=>if 0 <= i then (match T.kids[i.toNat]? with | some k=>MT.at_ k p | none=>none) else none
def MT.mk? :MT ->List Int ->Bool
 | T, []=>T.mark
 | T,i::p=>if 0 <= i then (match T.kids[i.toNat]? with | some k=>MT.mk? k p | none=>false) else false
theorem MT.mk_nil (T:MT):T.mk? []=T.mark:=rfl
def MT.put:MT ->List Int ->MT ->MT
 | _, [],m=>m
 | T,i::p,m=>match T.kids[i.toNat]? with
   | some k=>T.setKids (T.kids.set i.toNat (MT.put k p m))
   | none=>T
theorem MT.at_bare:∀ (p:List Int) (T:MT),kK T.bare p=(T.at_ p).map MT.bare
 | [],T=>rfl
 | i ::p,T=>by
   unfold kK MT.at_
   split
   . rw [MT.kids_bare,List.getElem?_map]
     cases T.kids[i.toNat]? with
     | none=>rfl
     | some k=>exact MT.at_bare p k
   . rfl
theorem MT.at_cons_some {T m:MT} {i:Int} {p:List Int} (h:T.at_ (i::p)=some m):∃j:Nat,i=(j:Int)/\∃hj:j < T.kids.length,T.kids[j].at_ p=some m:=by
 unfold MT.at_ at h
 split at h
 . rename_i h0
   obtain⟨j,rfl⟩:∃j:Nat,i=j:=⟨i.toNat,by omega⟩
   rw [Int.toNat_natCast]at h
   by_cases hj:j < T.kids.length
   . rw [List.getElem?_eq_getElem hj]at h
     exact⟨j,rfl,hj,h⟩
   . rw [List.getElem?_eq_none (by omega)]at h
     cases h
 . cases h
theorem MT.at_cons {T:MT} {j:Nat} {p:List Int} (hj:j < T.kids.length):T.at_ ((j:Int)::p)=T.kids[j].at_ p:=by
 conv=>lhs;unfold MT.at_
 rw [if_pos (by omega),Int.toNat_natCast,List.getElem?_eq_getElem hj]
theorem MT.put_cons {T m:MT} {j:Nat} {p:List Int} (hj:j < T.kids.length):T.put ((j:Int)::p) m=T.setKids (T.kids.set j (T.kids[j].put p m)):=by
 conv=>lhs;unfold MT.put
 rw [Int.toNat_natCast,List.getElem?_eq_getElem hj]
theorem MT.mk_cons {T:MT} {j:Nat} {p:List Int} (hj:j < T.kids.length):T.mk? ((j:Int)::p)=T.kids[j].mk? p:=by
 conv=>lhs;unfold MT.mk?
 rw [if_pos (by omega),Int.toNat_natCast,List.getElem?_eq_getElem hj]
theorem MT.mk_cons_true {T:MT} {i:Int} {p:List Int} (h:T.mk? (i::p)=true):∃j:Nat,i=(j:Int)/\∃hj:j < T.kids.length,T.kids[j].mk? p=true:=by
 unfold MT.mk? at h
 split at h
 . obtain ⟨j,rfl⟩:∃j:Nat,i=j:=⟨i.toNat,by omega⟩
   rw [Int.toNat_natCast]at h
   by_cases hj:j < T.kids.length
   . rw [List.getElem?_eq_getElem hj]at h
     exact⟨j,rfl,hj,h⟩
   . rw [List.getElem?_eq_none (by omega)]at h
     cases h
 . cases h
theorem MT.mk_at:∀ (p:List Int) (T:MT),T.mk? p=true ↔ ∃t,T.at_ p=some t/\t.mark=true
 | [],T=>by simp [MT.mk?,MT.at_]
 | i ::p,T=>by
   constructor
   . intro h
     obtain⟨j,rfl,hj,h2⟩:=MT.mk_cons_true h
     rw [MT.at_cons hj]
     exact(MT.mk_at p _).1 h2
   . rintro ⟨t,h1,h2⟩
     obtain⟨j,rfl,hj,h3⟩:=MT.at_cons_some h1
     rw [MT.mk_cons hj]
     exact(MT.mk_at p _).2 ⟨t,h3,h2⟩
theorem MT.bare_put:∀ (p:List Int) (T k m:MT),T.at_ p=some k ->(T.put p m).bare=gY T.bare p m.bare
 | [],T,k,m,h=>by simp [MT.put,gY]
 | i::p,T,k,m,h=>by
   obtain⟨j,rfl,hj,h2⟩:=MT.at_cons_some h
   have hj2:j < (aQ T.bare).length:=by rw [MT.kids_bare];simpa using hj
   rw [MT.put_cons hj,l7 hj2,MT.bare_setKids,List.map_set,MT.bare_put p _ k m h2]
   simp only [MT.kids_bare,List.getElem_map]
theorem MT.at_put:∀ (p:List Int) (T k m:MT),T.at_ p=some k ->(T.put p m).at_ p=some m
 | [],T,k,m,h=>by simp [MT.put,MT.at_]
 | i::p,T,k,m,h=>by
   obtain⟨j,rfl,hj,h2⟩:=MT.at_cons_some h
   rw [MT.put_cons hj]
   have hj2:j < (T.setKids (T.kids.set j (T.kids[j].put p m))).kids.length:=by rw [MT.kids_setKids];simpa using hj
   rw [MT.at_cons hj2]
   simp only [MT.kids_setKids,List.getElem_set_self]
   exact MT.at_put p _ k m h2
theorem MT.put_put:∀ (p:List Int) (T k a b:MT),T.at_ p=some k ->(T.put p a).put p b=T.put p b
 | [],T,k,a,b,h=>by simp [MT.put]
 | i::p,T,k,a,b,h=>by
   obtain⟨j,rfl,hj,h2⟩:=MT.at_cons_some h
   rw [MT.put_cons hj,MT.put_cons hj]
   have hj2:j < (T.setKids (T.kids.set j (T.kids[j].put p a))).kids.length:=by rw [MT.kids_setKids];simpa using hj
   rw [MT.put_cons hj2,MT.setKids_setKids]
   simp only [MT.kids_setKids,List.getElem_set_self,List.set_set]
   rw [MT.put_put p _ k a b h2]
theorem MT.at_step (T:MT) (i:Int) (p:List Int):T.at_ (i::p)=if 0 <= i then (match T.kids[i.toNat]? with | some k=>MT.at_ k p | none=>none) else none:=by
 conv=>lhs;unfold MT.at_
theorem MT.at_append:∀ (p q:List Int) (T:MT),T.at_ (p ++ q)=(T.at_ p).bind (fun k=>k.at_ q)
 | [],q,T=>by simp [MT.at_]
 | i ::p,q,T=>by
   rw [List.cons_append,MT.at_step T i (p ++ q),MT.at_step T i p]
   split
   . cases T.kids[i.toNat]? with
     | none=>rfl
     | some k=>exact MT.at_append p q k
   . rfl
theorem MT.put_same:∀ (p:List Int) (T k:MT),T.at_ p=some k ->T.put p k=T
 | [],T,k,h=>by
   have e:T=k:=by simpa [MT.at_]using h
   subst e
   simp [MT.put]
 | i::p,T,k,h=>by
   obtain⟨j,rfl,hj,h2⟩:=MT.at_cons_some h
   rw [MT.put_cons hj,MT.put_same p _ k h2,List.set_getElem_self,MT.setKids_self]
theorem MT.mk_app:∀ (p q:List Int) (T k:MT),T.at_ p=some k ->T.mk? (p ++ q)=k.mk? q
 | [],q,T,k,h=>by
   have e:T=k:=by simpa [MT.at_]using h
   subst e;rfl
 | i::p,q,T,k,h=>by
   obtain⟨j,rfl,hj,h2⟩:=MT.at_cons_some h
   rw [List.cons_append,MT.mk_cons hj,MT.mk_app p q _ k h2]
def AY (m:Bool) (n:aK):MT:= .mk m (aZ n) (cV n) (gJ n) []
def G0:MT ->MT ->MT
 | .mk m l ps t ks, .mk _ _ _ t' ks'=> .mk m l ps (t ++ t') (ks ++ ks')
abbrev n_Q:MT:=AY false bZ
abbrev rJ (ks:List MT) (j:Nat):MT:=ks.getD j n_Q
def a_4 (r:bJ) (ks:List MT) (f:qJ):List MT:=
 if f.1=1∨f.1=5 then ks.eraseIdx f.2.1.toNat
 else if f.1=2 then ks.take f.2.1.toNat ++ ((rJ ks f.2.1.toNat).kids ++ ks.drop (f.2.1.toNat+1))
 else if f.1=3 then ks.take f.2.1.toNat ++ (AY true (fQ (eY r (rJ ks f.2.1.toNat).bare).2)).setKids ((ks.drop f.2.1.toNat).take f.2.2.toNat)::ks.drop (f.2.1.toNat+f.2.2.toNat)
 else if f.1=4 then (ks.eraseIdx f.2.1.toNat).set (f.2.1.toNat - 1) (G0 (rJ ks (f.2.1.toNat - 1)) (rJ ks f.2.1.toNat))
 else [if r.fill=1 then AY false (.mk true [] [] []) else AY true (fQ r.fillT)]
theorem AZ (m:Bool) (n:aK) (h:aQ n= []):(AY m n).bare=n:=by
 obtain⟨l,ps,t,ks⟩:=n
 simp only [aQ]at h
 subst h
 rfl
theorem d_K (x y:MT):(G0 x y).bare=pQ x.bare y.bare:=by
 cases x;cases y
 simp [G0,pQ,MT.bare,MT.bares_map]
theorem k_C (ks:List MT) (j:Nat):(rJ ks j).bare=cX (ks.map MT.bare) j:=by
 simp only [rJ,cX,List.getD,List.getElem?_map]
 cases ks[j]? with
 | none=>rfl
 | some k=>rfl
theorem I4 {α β :Type} (f: α -> β):∀ (l:List α) (i:Nat),(l.eraseIdx i).map f=(l.map f).eraseIdx i
 | [],i=>by simp
 | x::l,0=>by simp
 | x::l,i+1=>by simp [I4 f l i]
def MT.fix (s:b8) (T:MT):MT:=T.setKids (a_4 (bV s (dZ T.bare)) T.kids (g9 s T.bare))
theorem MT.mark_fix (s:b8) (T:MT):(T.fix s).mark=T.mark:=MT.mark_setKids _ _
theorem g_X {x y:aK} (hx:eQ x=0) (hy:eQ y=0) (lx:aZ x=true) (ly:aZ y=true):eQ (pQ x y)=0:=by
 have k1:=FQ hx lx
 have k2:=FQ hy ly
 obtain⟨l1,p1,t1,q1⟩:=x
 obtain⟨l2,p2,t2,q2⟩:=y
 simp only [aQ]at k1 k2
 subst k1;subst k2
 obtain⟨g1,g2,g3,g4⟩:=zJ.1 (mJ.1 hx).1
 obtain⟨f1,f2,f3,f4⟩:=zJ.1 (mJ.1 hy).1
 have:l1=true:=lx
 subst this
 refine mJ.2 ⟨zJ.2 ⟨g1,fun _=>rfl,(fun h=>by cases h), ?_⟩,by simp⟩
 unfold LZ at g4 f4⊢
 rw [List.any_append]
 cases h1:t1.any (fun c=> !G4 c)with
 | true=>rw [h1]at g4;simp at g4
 | false=>
   cases h2:t2.any (fun c=> !G4 c)with
   | true=>rw [h2]at f4;simp at f4
   | false=>rfl
theorem m_a {s:b8} {k:aK} (hs:uX s=0) (hn:eQ k=0) (hf:(g9 s k).1≠0):∀x∈MV (bV s (dZ k)) (aQ k) (g9 s k),eQ x=0:=by
 have hE:=rZ hn
 have hw:=g_U hs hf
 rcases o8 s k with h | ⟨c,j,hl,h1,h6,hj,he,hlt,h4,h66⟩
 . rw [h]at hf;exact absurd rfl hf
 rw [he]at hw⊢
 generalize bV s (dZ k)=r at hj hw⊢
 unfold f_F at hw
 simp only [Int.toNat_natCast]at hw
 obtain rfl | rfl | rfl | rfl | rfl | rfl:c=1∨c=2∨c=3∨c=4∨c=5∨c=6:=by omega
 . rw [FV (.inl rfl)]
   exact fun x hx=>hE x (List.mem_of_mem_eraseIdx hx)
 . have hjl:=hlt (by omega)
   rw [c_i rfl]
   simp only [Int.toNat_natCast]
   rw [kid_at hjl]
   intro x hx
   rcases List.mem_append.1 hx with hx | hx
   . exact hE x (List.mem_of_mem_take hx)
   . rcases List.mem_append.1 hx with hx | hx
     . exact rZ (hE _ (List.getElem_mem hjl)) x hx
     . exact hE x (List.mem_of_mem_drop hx)
 . rw [MY rfl]
   simp only [Int.toNat_natCast]
   exact d_u (hw.1 rfl) (d_C _) hE
 . obtain ⟨g1,g2,g3,g4,g5⟩:=a_C (show i7 r (aQ k) 4=j from hj)
   rw [a_X rfl]
   simp only [Int.toNat_natCast]
   intro x hx
   rcases List.mem_or_eq_of_mem_set hx with hx | rfl
   . exact hE x (List.mem_of_mem_eraseIdx hx)
   . refine g_X ?_ ?_ g4 g3
     . rw [kid_at (show j - 1 < (aQ k).length by omega)];exact hE _ (List.getElem_mem _)
     . rw [kid_at g2];exact hE _ (List.getElem_mem _)
 . rw [FV (.inr rfl)]
   exact fun x hx=>hE x (List.mem_of_mem_eraseIdx hx)
 . rw [c_j rfl]
   intro x hx
   obtain rfl:=List.mem_singleton.1 hx
   split
   . exact JZ
   . rename_i h;exact hw.2 rfl h
theorem i_K {s:b8} {k:aK} (hf:(g9 s k).1≠0):aZ k=false:=by
 rcases o8 s k with h | ⟨c,j,hl, -⟩
 . rw [h]at hf;exact absurd rfl hf
 . exact hl
def i_L (T T':MT) (o:yK):Prop:= ∀q',T'.mk? q'=true ↔ ∃q,T.mk? q=true/\kY q o=some q'
theorem g_Y (x:Int) (r:List Int):bQ (x::r)=(!AJ x && bQ r):=by simp [bQ]
theorem gV {j:Nat} (h:j <= 1048576):AJ (j:Int)=false:=by unfold AJ;simp;omega
theorem K3:∀ (q:List Int) (n m:aK),kK n q=some m ->n.wt <= 1048576 ->bQ q=true
 | [],n,m,h,hw=>rfl
 | i::q,n,m,h,hw=>by
   obtain⟨j,rfl,hj,h2⟩:=iV h
   obtain⟨l,ps,t,ks⟩:=n
   simp only [aQ]at hj h2
   have h3:=iK (List.getElem_mem hj)
   have h4:=fX ks
   simp only [aK.wt]at hw
   rw [g_Y,gV (by omega),K3 q _ m h2 (by omega)]
   rfl
theorem MT.small {T:MT} {q:List Int} (h:T.mk? q=true) (hw:T.bare.wt <= 1048576):bQ q=true:=by
 obtain⟨t,h1, -⟩:=(MT.mk_at q T).1 h
 refine K3 q T.bare t.bare ?_ hw
 rw [MT.at_bare,h1];rfl
theorem q8 {a:List Int} (ha:a≠ []):cJ a []=0:=by
 cases a with
 | nil=>exact absurd rfl ha
 | cons x a=>simp [cJ,jK,B6]
theorem uY (x y:Int) (r:List Int):cJ [x] (y::r)=if x=y then (if r= [] then 3 else 2) else if x < y then 1 else 0:=by
 unfold cJ jK B6
 by_cases h:x=y
 . subst h
   cases r with
   | nil=>simp
   | cons z r=>simp [eZ]
 . simp [eZ,h]
theorem LX {x y z:Int} {r:List Int} (h:x≠y):cJ [x,z] (y::r)=0:=by
 unfold cJ jK B6
 simp [eZ,h]
theorem d_d (x z:Int) (r:List Int):cJ [x,z] (x::r)=cJ [z] r:=K2 (p:= [x]) (a:= [z]) (b:=r) (by simp)
theorem uZ (x d:Int) (r:List Int):dV (x::r) 0 d=(x+d)::r:=by simp [dV]
theorem d_L (x y d:Int) (r:List Int):dV (x::y::r) 1 d=x::(y+d)::r:=by simp [dV]
theorem xK (x y:Int) (r:List Int):eJ (y::r) [x]=if x <= y then (y+1)::r else y::r:=by
 show (if cJ [x] (y::r)=0 then y::r else dV (y::r) 0 1)=_
 by_cases h1:x=y
 . have h:cJ [x] (y::r)≠0:=by
    rw [uY,if_pos h1]
    by_cases hr:r= []
    . rw [if_pos hr];decide
    . rw [if_neg hr];decide
   rw [if_neg h,if_pos (show x <= y by omega)]
   exact uZ _ _ _
 . by_cases h2:x < y
   . have h:cJ [x] (y::r)=1:=by rw [uY,if_neg h1,if_pos h2]
     rw [h,if_neg (show ¬ (1:Nat)=0 by decide),if_pos (show x <= y by omega)]
     exact uZ _ _ _
   . have h:cJ [x] (y::r)=0:=by rw [uY,if_neg h1,if_neg h2]
     rw [h,if_pos rfl,if_neg (show ¬x <= y by omega)]
def xQ (p:List Int) (o:yK):Bool:=bQ p && (bQ o.path && (bQ o.dest && !AJ o.pos))
theorem i_M {p:List Int} {o:yK} (hs:xQ p o=true) (hp:o.path≠ []) (h:o.kind=1):kY p o=some (eJ p o.path):=by
 unfold kY;unfold xQ at hs;rw [hs,if_neg (by simp),if_neg hp,if_pos h]
theorem i_N {p:List Int} {o:yK} (hs:xQ p o=true) (hp:o.path≠ []) (h:o.kind=2):kY p o=if cJ o.path p=2∨cJ o.path p=3 then none else if cJ o.path p=1 then some (dV p (o.path.length - 1) (-1)) else some p:=by
 unfold kY;unfold xQ at hs;rw [hs,if_neg (by simp),if_neg hp,if_neg (by omega),if_pos h]
theorem f_I {p:List Int} {o:yK} (hs:xQ p o=true) (hp:o.path≠ []) (h:o.kind=3):kY p o=if iJ o.path=0 then none else if cJ o.path p=2 then some (dV (dV p o.path.length o.pos) (o.path.length - 1) (-1))
 else if cJ o.path p=3∨cJ o.path p=1 then some (dV p (o.path.length - 1) (-1)) else some p:=by
 unfold kY;unfold xQ at hs;rw [hs,if_neg (by simp),if_neg hp,if_neg (by omega),if_neg (by omega),if_pos h]
theorem a_5 {p:List Int} {o:yK} (hs:xQ p o=true) (hp:o.path≠ []) (h:o.kind=5):kY p o=if cJ o.path p=3∨cJ o.path p=2 then some (o.dest ++ p.drop o.path.length) else some (eJ (if cJ o.path p=1 then dV p (o.path.length - 1) (-1) else p) o.dest):=by
 unfold kY;unfold xQ at hs;rw [hs,if_neg (by simp),if_neg hp,if_neg (by omega),if_neg (by omega),if_neg (by omega),if_neg (by omega),if_pos h]
theorem e_s:AJ 0=false:=by decide
theorem nJ (x:Int):bQ [x]= !AJ x:=by simp [bQ]
theorem G1 (x y:Int):bQ [x,y]=(!AJ x && !AJ y):=by simp [bQ]
theorem L6:bQ []=true:=rfl
theorem E5 (x:Int):eJ [] [x]= []:=by unfold eJ;rw [q8 (by simp)];rfl
theorem a_G {j:Nat} {q:List Int} {x:aK} (hj:j <= 1048576) (hq:bQ q=true):kY q (j7.full ⟨2, [(j:Int)], [],0,x, []⟩)=
 match q with
 | []=>some []
 | c::r=>if c=j then none else if (j:Int) < c then some ((c - 1)::r) else some (c::r):=by
 rw [i_N (by simp only [xQ,hq,nJ,L6,e_s,gV hj];rfl) (by simp) rfl]
 cases q with
 | nil=>rw [q8 (by simp)];simp
 | cons c r=>
   simp only [uY]
   by_cases h1:(j:Int)=c
   . subst h1
     by_cases hr:r= []
     . simp [hr]
     . simp [hr]
   . rw [if_neg h1,if_neg (Ne.symm h1)]
     by_cases h2:(j:Int) < c
     . simp only [h2,if_true]
       simp [uZ,Int.sub_eq_add_neg]
     . simp [h2]
theorem k_D {k:MT} {j:Nat} {x:aK} (hj:j <= 1048576) (hs:∀q,k.mk? q=true ->bQ q=true):i_L k (k.setKids (k.kids.eraseIdx j)) (j7.full ⟨2, [(j:Int)], [],0,x, []⟩):=by
 intro q'
 constructor
 . intro h
   cases q' with
   | nil=>
     have h2:k.mk? []=true:=by rw [MT.mk_nil]at h⊢;rwa [MT.mark_setKids]at h
     exact⟨[],h2,a_G hj (hs _ h2)⟩
   | cons c r=>
     obtain⟨i,rfl,hi,h2⟩:=MT.mk_cons_true h
     simp only [MT.kids_setKids]at hi h2
     rw [List.getElem_eraseIdx]at h2
     split at h2
     . rename_i hlt
       have h3:k.mk? ((i:Int)::r)=true:=by rw [MT.mk_cons (by rw [List.length_eraseIdx]at hi;split at hi <;> omega)];exact h2
       refine⟨_,h3, ?_⟩
       rw [a_G hj (hs _ h3)]
       simp only
       rw [if_neg (by omega),if_neg (by omega)]
     . rename_i hge
       have hl:i+1 < k.kids.length:=by rw [List.length_eraseIdx]at hi;split at hi <;> omega
       have h3:k.mk? (((i+1:Nat):Int)::r)=true:=by rw [MT.mk_cons hl];exact h2
       refine⟨_,h3, ?_⟩
       rw [a_G hj (hs _ h3)]
       simp only
       rw [if_neg (by omega),if_pos (by omega),show (((i+1:Nat):Int) - 1)=(i:Int)by omega]
 . rintro ⟨q,h1,h2⟩
   rw [a_G hj (hs _ h1)]at h2
   cases q with
   | nil=>
     have:q'= []:=by simpa using h2.symm
     subst this
     rw [MT.mk_nil]at h1⊢
     rwa [MT.mark_setKids]
   | cons c r=>
     obtain⟨i,rfl,hi,h3⟩:=MT.mk_cons_true h1
     simp only at h2
     split at h2
     . cases h2
     . rename_i hne
       split at h2
       . rename_i hlt
         obtain rfl:((i:Int) - 1)::r=q':=by simpa using h2
         rw [show ((i:Int) - 1)=((i - 1:Nat):Int)by omega]
         have hl:i - 1 < (k.setKids (k.kids.eraseIdx j)).kids.length:=by rw [MT.kids_setKids,List.length_eraseIdx];split <;> omega
         rw [MT.mk_cons hl]
         simp only [MT.kids_setKids]
         rw [List.getElem_eraseIdx,dif_neg (by omega)]
         simpa [show i - 1+1=i by omega]using h3
       . rename_i hge
         obtain rfl:(i:Int)::r=q':=by simpa using h2
         have hl:i < (k.setKids (k.kids.eraseIdx j)).kids.length:=by rw [MT.kids_setKids,List.length_eraseIdx];split <;> omega
         rw [MT.mk_cons hl]
         simp only [MT.kids_setKids]
         rw [List.getElem_eraseIdx,dif_pos (by omega)]
         exact h3
def I5 (ks:List MT) (i:Nat) (m:MT):List MT:=ks.take i ++ m::ks.drop i
theorem K4 {ks:List MT} {i:Nat} {m:MT} (hi:i <= ks.length) (c:Nat):(I5 ks i m)[c]? =if c < i then ks[c]? else if c=i then some m else ks[c - 1]? :=by
 unfold I5
 have hl:(ks.take i).length=i:=by simp;omega
 split
 . rename_i h
   rw [List.getElem?_append_left (by omega),List.getElem?_take_of_lt h]
 . rename_i h
   rw [List.getElem?_append_right (by omega),hl]
   split
   . rename_i h2;subst h2;simp
   . rename_i h2
     rw [show c - i=(c - 1 - i)+1 by omega,List.getElem?_cons_succ,List.getElem?_drop]
     congr 1;omega
theorem fZ {T:MT} {i:Nat} {r:List Int}:T.mk? ((i:Int)::r)=match T.kids[i]? with | some k=>k.mk? r | none=>false:=by
 conv=>lhs;unfold MT.mk?
 rw [if_pos (by omega),Int.toNat_natCast]
 try rfl
theorem a_H {j:Nat} {q:List Int} {x:aK} (hj:j <= 1048576) (hq:bQ q=true):kY q (j7.full ⟨1, [(j:Int)], [],0,x, []⟩)=
 match q with
 | []=>some []
 | c::r=>if (j:Int) <= c then some ((c+1)::r) else some (c::r):=by
 rw [i_M (by simp only [xQ,hq,nJ,L6,e_s,gV hj];rfl) (by simp) rfl]
 cases q with
 | nil=>simp [E5]
 | cons c r=>
   simp only [xK]
   split <;> rfl
theorem k_E {k m:MT} {j:Nat} {x:aK} (hj:j <= 1048576) (hjl:j <= k.kids.length) (hm:∀r,m.mk? r=false) (hs:∀q,k.mk? q=true ->bQ q=true):i_L k (k.setKids (I5 k.kids j m)) (j7.full ⟨1, [(j:Int)], [],0,x, []⟩):=by
 intro q'
 constructor
 . intro h
   cases q' with
   | nil=>
     have h2:k.mk? []=true:=by rw [MT.mk_nil]at h⊢;rwa [MT.mark_setKids]at h
     exact⟨[],h2,a_H hj (hs _ h2)⟩
   | cons c r=>
     obtain⟨i,rfl,hi, -⟩:=MT.mk_cons_true h
     rw [fZ,MT.kids_setKids,K4 hjl]at h
     split at h
     . rename_i k0 hk0
       split at hk0
       . rename_i hlt
         have h3:k.mk? ((i:Int)::r)=true:=by rw [fZ,hk0];exact h
         exact⟨_,h3,by rw [a_H hj (hs _ h3)];simp only;rw [if_neg (by omega)]⟩
       . split at hk0
         . injection hk0 with e
           rw [<- e,hm r]at h
           cases h
         . rename_i h1 h2
           have h3:k.mk? (((i - 1:Nat):Int)::r)=true:=by rw [fZ,hk0];exact h
           exact⟨_,h3,by rw [a_H hj (hs _ h3)];simp only;rw [if_pos (by omega),show (((i - 1:Nat):Int)+1)=(i:Int)by omega]⟩
     . cases h
 . rintro ⟨q,h1,h2⟩
   rw [a_H hj (hs _ h1)]at h2
   cases q with
   | nil=>
     have:q'= []:=by simpa using h2.symm
     subst this
     rw [MT.mk_nil]at h1⊢
     rwa [MT.mark_setKids]
   | cons c r=>
     obtain⟨i,rfl,hi, -⟩:=MT.mk_cons_true h1
     rw [fZ]at h1
     simp only at h2
     split at h2
     . rename_i hge
       obtain rfl:((i:Int)+1)::r=q':=by simpa using h2
       rw [show ((i:Int)+1)=((i+1:Nat):Int)by omega,fZ,MT.kids_setKids,K4 hjl,if_neg (by omega),if_neg (by omega)]
       exact h1
     . rename_i hlt
       obtain rfl:(i:Int)::r=q':=by simpa using h2
       rw [fZ,MT.kids_setKids,K4 hjl,if_pos (by omega)]
       exact h1
theorem h_Q (x y c:Int) (r:List Int):eJ (c::r) [x,y]=if c=x then x::eJ r [y] else c::r:=by
 by_cases h:c=x
 . subst h
   rw [if_pos rfl]
   exact EX (p:= [c]) (a:= [y]) (b:=r) (by simp)
 . rw [if_neg h]
   unfold eJ
   rw [LX (Ne.symm h),if_pos rfl]
theorem zZ {j t:Nat} {q:List Int} (hj:j+1 <= 1048576) (ht:t <= 1048576) (hq:bQ q=true):kY q (j7.full ⟨5, [(j:Int)+1], [(j:Int),(t:Int)],0,bZ, []⟩)=
 match q with
 | []=>some []
 | c::r=>if c=(j:Int)+1 then some ((j:Int)::(t:Int)::r) else if (j:Int)+1 < c then some ((c - 1)::r) else if c=j then some ((j:Int)::eJ r [(t:Int)]) else some (c::r):=by
 have e:((j:Int)+1)=((j+1:Nat):Int):=by omega
 rw [e,a_5 (by simp only [xQ,hq,nJ,G1,e_s,gV hj,gV (show j <= 1048576 by omega),gV ht];rfl) (by simp) rfl]
 dsimp only [j7.full]
 cases q with
 | nil=>
   rw [q8 (by simp),if_neg (by decide),if_neg (by decide)]
   simp [eJ,q8]
 | cons c r=>
   have s1:=uY ((j+1:Nat):Int) c r
   dsimp only
   by_cases h1:((j+1:Nat):Int)=c
   . have h:cJ [((j+1:Nat):Int)] (c::r)=3∨cJ [((j+1:Nat):Int)] (c::r)=2:=by
      rw [s1,if_pos h1]
      by_cases hr:r= []
      . simp [hr]
      . simp [hr]
     rw [if_pos h,if_pos h1.symm];rfl
   . rw [if_neg h1]at s1
     by_cases h2:((j+1:Nat):Int) < c
     . rw [if_pos h2]at s1
       rw [s1,if_neg (by decide),if_pos rfl,if_neg (Ne.symm h1),if_pos h2]
       show some (eJ (dV (c::r) 0 (-1)) [(j:Int),(t:Int)])=_
       rw [uZ,h_Q,if_neg (by omega), <- Int.sub_eq_add_neg]
     . rw [if_neg h2]at s1
       rw [s1,if_neg (by decide),if_neg (by decide),if_neg (Ne.symm h1),if_neg h2,h_Q]
       split <;> rfl
theorem i_O {k x:MT} {j t:Nat} (hj:j+1 < k.kids.length) (hj2:j+1 <= 1048576) (ht2:t <= 1048576) (hx:k.kids[j]=x) (ht:x.kids.length=t) (hs:∀q,k.mk? q=true ->bQ q=true):
 i_L k (k.setKids ((k.kids.eraseIdx (j+1)).set j (x.setKids (x.kids ++ [k.kids[j+1]])))) (j7.full ⟨5, [(j:Int)+1], [(j:Int),(t:Int)],0,bZ, []⟩):=by
 have hget:∀c:Nat,((k.kids.eraseIdx (j+1)).set j (x.setKids (x.kids ++ [k.kids[j+1]])))[c]? =if c=j then some (x.setKids (x.kids ++ [k.kids[j+1]])) else if c < j then k.kids[c]? else k.kids[c+1]? :=by
  intro c
  rw [List.getElem?_set]
  split
  . rename_i h
    subst h
    rw [if_pos (by rw [List.length_eraseIdx];split <;> omega),if_pos rfl]
  . rename_i h
    rw [if_neg (Ne.symm h),List.getElem?_eraseIdx]
    split
    . rename_i h2;rw [if_pos (by omega)]
    . rename_i h2;rw [if_neg (by omega)]
 have hxj:k.kids[j]? =some x:=by rw [List.getElem?_eq_getElem (by omega),hx]
 have hyj:k.kids[j+1]? =some k.kids[j+1]:=List.getElem?_eq_getElem hj
 generalize k.kids[j+1]=y at hget hyj⊢
 intro q'
 constructor
 . intro h
   cases q' with
   | nil=>
     have h2:k.mk? []=true:=by rw [MT.mk_nil]at h⊢;rwa [MT.mark_setKids]at h
     exact⟨[],h2,zZ hj2 ht2 (hs _ h2)⟩
   | cons c r=>
     obtain⟨i,rfl, -, -⟩:=MT.mk_cons_true h
     rw [fZ,MT.kids_setKids,hget]at h
     by_cases h1:i=j
     . subst h1
       rw [if_pos rfl]at h
       simp only at h
       cases r with
       | nil=>
         have h2:k.mk? [(i:Int)]=true:=by rw [fZ,hxj];simp only;rw [MT.mk_nil]at h⊢;rwa [MT.mark_setKids]at h
         refine⟨_,h2, ?_⟩
         rw [zZ hj2 ht2 (hs _ h2)]
         simp only
         rw [if_neg (by omega),if_neg (by omega),if_pos trivial,E5]
       | cons e r=>
         obtain⟨z,rfl,hz,h2⟩:=MT.mk_cons_true h
         simp only [MT.kids_setKids]at hz h2
         by_cases hzt:z < x.kids.length
         . rw [List.getElem_append_left hzt]at h2
           have h3:k.mk? ((i:Int)::(z:Int)::r)=true:=by rw [fZ,hxj];simp only;rw [MT.mk_cons hzt];exact h2
           refine⟨_,h3, ?_⟩
           rw [zZ hj2 ht2 (hs _ h3)]
           simp only
           rw [if_neg (by omega),if_neg (by omega),if_pos trivial,xK,if_neg (by omega)]
         . have hz2:z=x.kids.length:=by simp at hz;omega
           subst hz2
           rw [List.getElem_append_right (a8)]at h2
           simp only [Nat.sub_self,List.getElem_singleton]at h2
           have h3:k.mk? (((i+1:Nat):Int)::r)=true:=by rw [fZ,hyj];exact h2
           refine⟨_,h3, ?_⟩
           rw [zZ hj2 ht2 (hs _ h3)]
           simp only
           rw [if_pos (by omega),ht]
     . rw [if_neg h1]at h
       by_cases h2:i < j
       . rw [if_pos h2]at h
         have h3:k.mk? ((i:Int)::r)=true:=by rw [fZ];exact h
         refine⟨_,h3, ?_⟩
         rw [zZ hj2 ht2 (hs _ h3)]
         simp only
         rw [if_neg (by omega),if_neg (by omega),if_neg (by omega)]
       . rw [if_neg h2]at h
         have h3:k.mk? (((i+1:Nat):Int)::r)=true:=by rw [fZ];exact h
         refine⟨_,h3, ?_⟩
         rw [zZ hj2 ht2 (hs _ h3)]
         simp only
         rw [if_neg (by omega),if_pos (by omega),show (((i+1:Nat):Int) - 1)=(i:Int)by omega]
 . rintro ⟨q,h1,h2⟩
   rw [zZ hj2 ht2 (hs _ h1)]at h2
   cases q with
   | nil=>
     have:q'= []:=by simpa using h2.symm
     subst this
     rw [MT.mk_nil]at h1⊢
     rwa [MT.mark_setKids]
   | cons c r=>
     obtain⟨i,rfl, -, -⟩:=MT.mk_cons_true h1
     rw [fZ]at h1
     simp only at h2
     split at h2
     . rename_i he
       obtain rfl:i=j+1:=by omega
       obtain rfl:(j:Int)::(t:Int)::r=q':=by simpa using h2
       rw [hyj]at h1
       rw [fZ,MT.kids_setKids,hget,if_pos rfl]
       simp only
       rw [fZ,MT.kids_setKids,List.getElem?_append_right (by omega),ht]
       simpa using h1
     . split at h2
       . obtain rfl:((i:Int) - 1)::r=q':=by simpa using h2
         rw [show ((i:Int) - 1)=((i - 1:Nat):Int)by omega,fZ,MT.kids_setKids,hget,if_neg (by omega),if_neg (by omega),show i - 1+1=i by omega]
         exact h1
       . split at h2
         . rename_i he
           obtain rfl:i=j:=by omega
           obtain rfl:(i:Int)::eJ r [(t:Int)]=q':=by simpa using h2
           rw [hxj]at h1
           simp only at h1
           rw [fZ,MT.kids_setKids,hget,if_pos rfl]
           simp only
           cases r with
           | nil=>rw [E5,MT.mk_nil,MT.mark_setKids];exact h1
           | cons e r=>
             obtain⟨z,rfl,hz,h4⟩:=MT.mk_cons_true h1
             rw [xK,if_neg (by omega),fZ,MT.kids_setKids,List.getElem?_append_left hz,List.getElem?_eq_getElem hz]
             exact h4
         . obtain rfl:(i:Int)::r=q':=by simpa using h2
           rw [fZ,MT.kids_setKids,hget,if_neg (by omega),if_pos (by omega)]
           exact h1
theorem vZ {j d:Nat} {q:List Int} (hj:j <= 1048576) (hd:d <= 1048576) (hq:bQ q=true):kY q (j7.full ⟨5, [(j:Int),0], [(d:Int)],0,bZ, []⟩)=
 match q with
 | []=>some []
 | c ::r=>if c=(j:Int) then (match r with
     | []=>some (eJ [(j:Int)] [(d:Int)])
     | e::r2=>if e=0 then some ((d:Int)::r2) else if 0 < e then some (eJ ((j:Int)::(e - 1)::r2) [(d:Int)]) else some (eJ ((j:Int)::e::r2) [(d:Int)]))
   else some (eJ (c::r) [(d:Int)]):=by
 rw [a_5 (by simp only [xQ,hq,nJ,G1,e_s,gV hj,gV hd];rfl) (by simp) rfl]
 dsimp only [j7.full]
 cases q with
 | nil=>rw [q8 (by simp),if_neg (by decide),if_neg (by decide),E5]
 | cons c r=>
   dsimp only
   by_cases h1:c=(j:Int)
   . subst h1
     rw [d_d,if_pos rfl]
     cases r with
     | nil=>rw [q8 (by simp),if_neg (by decide),if_neg (by decide)]
     | cons e r2=>
       have s1:=uY 0 e r2
       dsimp only
       by_cases h2:e=0
       . subst h2
         have h:cJ [(0:Int)] (0::r2)=3∨cJ [(0:Int)] (0::r2)=2:=by
          rw [s1,if_pos rfl]
          by_cases hr:r2= []
          . simp [hr]
          . simp [hr]
         rw [if_pos h,if_pos rfl];rfl
       . rw [if_neg (Ne.symm h2)]at s1
         by_cases h3:(0:Int) < e
         . rw [if_pos h3]at s1
           rw [s1,if_neg (by decide),if_pos rfl,if_neg h2,if_pos h3]
           show some (eJ (dV ((j:Int)::e::r2) 1 (-1)) [(d:Int)])=_
           rw [d_L, <- Int.sub_eq_add_neg]
         . rw [if_neg h3]at s1
           rw [s1,if_neg (by decide),if_neg (by decide),if_neg h2,if_neg h3]
   . rw [LX (Ne.symm h1),if_neg (by decide),if_neg (by decide),if_neg h1]
theorem i_P {k x y:MT} {ys:List MT} {j d:Nat} (hj:j < k.kids.length) (hj2:j <= 1048576) (hd2:d <= 1048576) (hx:k.kids[j]=x) (hy:x.kids=y::ys) (hjd:j < d) (hd:d <= k.kids.length) (hs:∀q,k.mk? q=true ->bQ q=true):
 i_L k (k.setKids (I5 (k.kids.set j (x.setKids ys)) d y)) (j7.full ⟨5, [(j:Int),0], [(d:Int)],0,bZ, []⟩):=by
 have hget:∀c:Nat,(I5 (k.kids.set j (x.setKids ys)) d y)[c]? =if c < d then (if c=j then some (x.setKids ys) else k.kids[c]?) else if c=d then some y else k.kids[c - 1]? :=by
  intro c
  rw [K4 (by rw [List.length_set];exact hd)]
  split
  . rw [List.getElem?_set]
    split
    . rename_i h;subst h;rw [if_pos rfl]
    . rename_i h;rw [if_neg (Ne.symm h)]
  . split
    . rfl
    . rw [List.getElem?_set_ne (by omega)]
 have hxj:k.kids[j]? =some x:=by rw [List.getElem?_eq_getElem hj,hx]
 intro q'
 constructor
 . intro h
   cases q' with
   | nil=>
     have h2:k.mk? []=true:=by rw [MT.mk_nil]at h⊢;rwa [MT.mark_setKids]at h
     exact⟨[],h2,vZ hj2 hd2 (hs _ h2)⟩
   | cons c r=>
     obtain⟨i,rfl, -, -⟩:=MT.mk_cons_true h
     rw [fZ,MT.kids_setKids,hget]at h
     by_cases h1:i < d
     . rw [if_pos h1]at h
       by_cases h2:i=j
       . subst h2
         rw [if_pos rfl]at h
         simp only at h
         cases r with
         | nil=>
           have h3:k.mk? [(i:Int)]=true:=by rw [fZ,hxj];simp only;rw [MT.mk_nil]at h⊢;rwa [MT.mark_setKids]at h
           refine⟨_,h3, ?_⟩
           rw [vZ hj2 hd2 (hs _ h3)]
           simp only
           rw [if_pos trivial,xK,if_neg (by omega)]
         | cons e r=>
           obtain⟨z,rfl,hz,h3⟩:=MT.mk_cons_true h
           simp only [MT.kids_setKids]at hz h3
           have h4:k.mk? ((i:Int)::((z+1:Nat):Int)::r)=true:=by
            rw [fZ,hxj]
            simp only
            rw [fZ,hy,List.getElem?_cons_succ,List.getElem?_eq_getElem hz]
            exact h3
           refine⟨_,h4, ?_⟩
           rw [vZ hj2 hd2 (hs _ h4)]
           simp only
           rw [if_pos trivial,if_neg (by omega),if_pos (by omega),xK,if_neg (by omega),show (((z+1:Nat):Int) - 1)=(z:Int)by omega]
       . rw [if_neg h2]at h
         have h3:k.mk? ((i:Int)::r)=true:=by rw [fZ];exact h
         refine⟨_,h3, ?_⟩
         rw [vZ hj2 hd2 (hs _ h3)]
         simp only
         rw [if_neg (by omega),xK,if_neg (by omega)]
     . rw [if_neg h1]at h
       by_cases h2:i=d
       . subst h2
         rw [if_pos rfl]at h
         simp only at h
         have h3:k.mk? ((j:Int)::((0:Nat):Int)::r)=true:=by rw [fZ,hxj];simp only;rw [fZ,hy];exact h
         refine⟨_,h3, ?_⟩
         rw [vZ hj2 hd2 (hs _ h3)]
         simp only
         rw [if_pos trivial,if_pos (by omega)]
       . rw [if_neg h2]at h
         have h3:k.mk? (((i - 1:Nat):Int)::r)=true:=by rw [fZ];exact h
         refine⟨_,h3, ?_⟩
         rw [vZ hj2 hd2 (hs _ h3)]
         simp only
         rw [if_neg (by omega),xK,if_pos (by omega),show (((i - 1:Nat):Int)+1)=(i:Int)by omega]
 . rintro ⟨q,h1,h2⟩
   rw [vZ hj2 hd2 (hs _ h1)]at h2
   cases q with
   | nil=>
     have:q'= []:=by simpa using h2.symm
     subst this
     rw [MT.mk_nil]at h1⊢
     rwa [MT.mark_setKids]
   | cons c r=>
     obtain⟨i,rfl, -, -⟩:=MT.mk_cons_true h1
     rw [fZ]at h1
     simp only at h2
     split at h2
     . rename_i he
       obtain rfl:i=j:=by omega
       rw [hxj]at h1
       simp only at h1
       cases r with
       | nil=>
         simp only at h2
         rw [xK,if_neg (by omega)]at h2
         obtain rfl: [(i:Int)]=q':=by simpa using h2
         rw [fZ,MT.kids_setKids,hget,if_pos hjd,if_pos rfl]
         simp only
         rw [MT.mk_nil]at h1⊢
         rwa [MT.mark_setKids]
       | cons e r=>
         obtain⟨z,rfl,hz,h4⟩:=MT.mk_cons_true h1
         rw [fZ,hy]at h1
         simp only at h2
         split at h2
         . rename_i h0
           obtain rfl:z=0:=by omega
           obtain rfl:(d:Int)::r=q':=by simpa using h2
           rw [fZ,MT.kids_setKids,hget,if_neg (by omega),if_pos rfl]
           exact h1
         . rename_i h0
           rw [if_pos (by omega),xK,if_neg (by omega)]at h2
           obtain rfl:(i:Int)::((z:Int) - 1)::r=q':=by simpa using h2
           rw [fZ,MT.kids_setKids,hget,if_pos hjd,if_pos rfl]
           simp only
           rw [show ((z:Int) - 1)=((z - 1:Nat):Int)by omega,fZ,MT.kids_setKids]
           rw [show z=(z - 1)+1 by omega,List.getElem?_cons_succ]at h1
           exact h1
     . rename_i hne
       rw [xK]at h2
       split at h2
       . rename_i hge
         obtain rfl:((i:Int)+1)::r=q':=by simpa using h2
         rw [show ((i:Int)+1)=((i+1:Nat):Int)by omega,fZ,MT.kids_setKids,hget,if_neg (by omega),if_neg (by omega),show i+1 - 1=i by omega]
         exact h1
       . rename_i hge
         obtain rfl:(i:Int)::r=q':=by simpa using h2
         rw [fZ,MT.kids_setKids,hget,if_pos (by omega),if_neg (by omega)]
         exact h1
def q9 (n:aK) (o:yK):List (List Int):=
 if o.kind=1 then (L8 n).filter (jK o.path) ++ [o.path.dropLast,o.path]
 else if o.kind=2 then [o.path.dropLast]
 else if o.kind=3 then o.path.dropLast::(if 0 < iJ o.path then [j5 o.path] else [])
 else o.dest.dropLast::(kY o.path.dropLast o).toList
def E6 (n:aK) (L:List (List Int)) (o:yK):List (List Int):=a_l ((q9 n o ++ L.filterMap (kY · o)).filter (jV n))
def mV:aK ->List (List Int) ->List yK ->List (List Int)
 | _,L, []=>L
 | n,L,o::os=>mV (lQ n o).1 (E6 (lQ n o).1 L o) os
theorem lJ {n m:aK} {L:List (List Int)} {o:yK} {l:List yK} (h:lQ n o=(m,0)):mV n L (o::l)=mV m (E6 m L o) l:=by
 conv=>lhs;unfold mV
 rw [h]
theorem K5:∀ (a b:List yK) (n m:aK) (L:List (List Int)),nV n a=some m ->mV n L (a ++ b)=mV m (mV n L a) b
 | [],b,n,m,L,h=>by
   have e:n=m:=by simpa [nV]using h
   subst e;rfl
 | o::a,b,n,m,L,h=>by
   obtain⟨T,h1,h2⟩:∃T,lQ n o=(T,0)/\nV T a=some m:=by
    rw [GV]at h
    split at h
    . rename_i h0;exact⟨(lQ n o).1,by rw [<- h0],h⟩
    . cases h
   rw [List.cons_append,lJ h1,lJ h1,K5 a b T m _ h2]
inductive MT.Ok:MT ->Prop
 | mk {m l:Bool} {ps:List eK} {t:List Int} {ks:List MT} (h:m=true ->l=false) (hk:∀k∈ks,MT.Ok k):MT.Ok (.mk m l ps t ks)
theorem MT.Ok.kids {T:MT} (h:T.Ok):∀k∈T.kids,k.Ok:=by cases h;assumption
theorem MT.Ok.leaf {T:MT} (h:T.Ok) (hm:T.mark=true):aZ T.bare=false:=by cases h;rename_i h1 h2;exact h1 hm
theorem MT.Ok.setKids {T:MT} {L:List MT} (h:T.Ok) (hL:∀k∈L,k.Ok):(T.setKids L).Ok:=by
 cases h;rename_i h1 h2;exact .mk h1 hL
theorem MT.Ok.at_:∀ (p:List Int) {T k:MT},T.Ok ->T.at_ p=some k ->k.Ok
 | [],T,k,h,ha=>by
   have e:T=k:=by simpa [MT.at_]using ha
   subst e;exact h
 | i::p,T,k,h,ha=>by
   obtain⟨j,rfl,hj,h2⟩:=MT.at_cons_some ha
   exact MT.Ok.at_ p (h.kids _ (List.getElem_mem hj)) h2
theorem MT.Ok.put:∀ (p:List Int) {T k:MT},T.Ok ->k.Ok ->(T.put p k).Ok
 | [],T,k,h,hk=>by simpa [MT.put]using hk
 | i ::p,T,k,h,hk=>by
   unfold MT.put
   split
   . rename_i k0 h0
     refine h.setKids fun x hx=> ?_
     rcases List.mem_or_eq_of_mem_set hx with hx | rfl
     . exact h.kids x hx
     . exact MT.Ok.put p (h.kids k0 (List.mem_of_getElem? h0)) hk
   . exact h
theorem MT.Ok.elem:∀ (q:List Int) {T:MT},T.Ok ->T.mk? q=true ->jV T.bare q=true:=by
 intro q T h hm
 obtain⟨t,h1,h2⟩:=(MT.mk_at q T).1 hm
 unfold jV
 rw [MT.at_bare,h1]
 show (!aZ t.bare)=true
 rw [(MT.Ok.at_ q h h1).leaf h2];rfl
def MT.markIt:MT ->MT
 | .mk _ l ps t ks=> .mk true l ps t ks
theorem MT.bare_markIt (T:MT):T.markIt.bare=T.bare:=by cases T;rfl
theorem MT.kids_markIt (T:MT):T.markIt.kids=T.kids:=by cases T;rfl
theorem MT.mark_markIt (T:MT):T.markIt.mark=true:=by cases T;rfl
theorem MT.markIt_markIt (T:MT):T.markIt.markIt=T.markIt:=by cases T;rfl
theorem MT.markIt_setKids (T:MT) (L:List MT):(T.setKids L).markIt=T.markIt.setKids L:=by cases T;rfl
theorem MT.mk_markIt (T:MT) (b:List Int):T.markIt.mk? b=true ↔ T.mk? b=true∨b= []:=by
 cases b with
 | nil=>simp [MT.mk_nil,MT.mark_markIt]
 | cons c r=>
   have:T.markIt.mk? (c::r)=T.mk? (c::r):=by
    conv=>lhs;unfold MT.mk?
    conv=>rhs;unfold MT.mk?
    rw [MT.kids_markIt]
   rw [this];simp
theorem MT.Ok.markIt {T:MT} (h:T.Ok) (hl:aZ T.bare=false):T.markIt.Ok:=by
 cases h;rename_i h1 h2;exact .mk (fun _=>hl) h2
def D7 (L:List (List Int)) (T:MT):Prop:=tZ L/\∀q,q∈L ↔ T.mk? q=true
theorem i_Q {T T':MT} {L:List (List Int)} {o:yK} (h:D7 L T) (hm:∀q',T'.mk? q'=true ↔ jV T'.bare q'=true/\(q'∈q9 T'.bare o∨ ∃q,T.mk? q=true/\kY q o=some q')):D7 (E6 T'.bare L o) T':=by
 refine⟨A9 _,fun q=> ?_⟩
 unfold E6
 rw [J3,List.mem_filter,List.mem_append,List.mem_filterMap,hm]
 constructor
 . rintro ⟨h1 | ⟨q0,h2,h3⟩,h4⟩
   . exact⟨h4, .inl h1⟩
   . exact⟨h4, .inr ⟨q0,(h.2 q0).1 h2,h3⟩⟩
 . rintro ⟨h4,h1 | ⟨q0,h2,h3⟩⟩
   . exact⟨.inl h1,h4⟩
   . exact⟨.inr ⟨q0,(h.2 q0).2 h2,h3⟩,h4⟩
theorem MT.mk_put2:∀ (p q:List Int) (T k m:MT),T.at_ p=some k ->¬p <+:q ->(T.put p m).mk? q=T.mk? q
 | [],q,T,k,m,h,h1=>absurd List.nil_prefix h1
 | i::p, [],T,k,m,h,h1=>by
   obtain⟨j,rfl,hj,h2⟩:=MT.at_cons_some h
   rw [MT.put_cons hj]
   show (T.setKids _).mark=T.mark
   rw [MT.mark_setKids]
 | i ::p,c::q,T,k,m,h,h1=>by
   obtain⟨j,rfl,hj,h2⟩:=MT.at_cons_some h
   rw [MT.put_cons hj]
   by_cases hc:c=(j:Int)
   . subst hc
     have hj2:j < (T.setKids (T.kids.set j (T.kids[j].put p m))).kids.length:=by rw [MT.kids_setKids];simpa using hj
     rw [MT.mk_cons hj2,MT.mk_cons hj]
     simp only [MT.kids_setKids,List.getElem_set_self]
     exact MT.mk_put2 p q _ k m h2 (fun h=>h1 (List.cons_prefix_cons.2 ⟨rfl,h⟩))
   . conv=>lhs;unfold MT.mk?
     conv=>rhs;unfold MT.mk?
     split
     . rw [MT.kids_setKids,List.getElem?_set_ne (by omega)]
     . rfl
theorem c_G {T k:MT} {p:List Int} (ha:T.at_ p=some k) (b:List Int):jV T.bare (p ++ b)=jV k.bare b:=by
 unfold jV
 rw [MT.at_bare,MT.at_append,ha,MT.at_bare]
 rfl
theorem CZ {T k k' k'':MT} {p:List Int} {o:yK} {L ms:List (List Int)} (hL:D7 L T) (ha:T.at_ p=some k) (hT:T.Ok) (hw:T.bare.wt <= 1048576) (ho:bQ o.path=true) (hod:bQ o.dest=true) (hpos:AJ o.pos=false) (hne:o.path≠ []) (hd:o.kind=5 ->o.dest≠ [])
 (h3:o.kind=3 ->iJ o.path≠0) (hg:i_L k k' o) (hk:k''.Ok) (h1:∀b,k''.mk? b=true ->k'.mk? b=true∨b∈ms) (h2:∀b,k'.mk? b=true ->k''.mk? b=true) (h4:∀b∈ms,jV k''.bare b=true ->k''.mk? b=true)
 (hms:∀q',jV (T.put p k'').bare q'=true ->(q'∈q9 (T.put p k'').bare (o.under p) ↔ ∃b∈ms,q'=p ++ b)):D7 (E6 (T.put p k'').bare L (o.under p)) (T.put p k''):=by
 have hp:bQ p=true:=K3 p T.bare k.bare (by rw [MT.at_bare,ha];rfl) hw
 have hs:∀q,T.mk? q=true ->bQ q=true:=fun q h=>MT.small h hw
 have hput:=MT.at_put p T k k'' ha
 have hE:(T.put p k'').Ok:=MT.Ok.put p hT hk
 refine i_Q hL fun q'=>⟨fun h=> ?_, ?_⟩
 . have he:=MT.Ok.elem q' hE h
   refine⟨he, ?_⟩
   by_cases hq:p <+:q'
   . obtain ⟨b,rfl⟩:=hq
     rw [MT.mk_app p b _ _ hput]at h
     rcases h1 b h with h | h
     . obtain ⟨q,g1,g2⟩:=(hg b).1 h
       exact .inr ⟨p ++ q,by rw [MT.mk_app p q T k ha];exact g1,by rw [L5 hp hne hd,g2];rfl⟩
     . exact .inl ((hms _ he).2 ⟨b,h,rfl⟩)
   . rw [MT.mk_put2 p q' T k k'' ha hq]at h
     exact .inr ⟨q',h,b_x (hs q' h) hp ho hod hpos hne hd h3 hq⟩
 . rintro ⟨he,h | ⟨q,g1,g2⟩⟩
   . obtain ⟨b,hb,rfl⟩:=(hms q' he).1 h
     rw [c_G hput]at he
     rw [MT.mk_app p b _ _ hput]
     exact h4 b hb he
   . by_cases hq:p <+:q
     . obtain ⟨b,rfl⟩:=hq
       rw [MT.mk_app p b T k ha]at g1
       rw [L5 hp hne hd]at g2
       cases hb:kY b o with
       | none=>rw [hb]at g2;cases g2
       | some c=>
         rw [hb]at g2
         have e:p ++ c=q':=by simpa using g2
         subst e
         rw [MT.mk_app p c _ _ hput]
         exact h2 c ((hg c).2 ⟨b,g1,hb⟩)
     . rw [b_x (hs q g1) hp ho hod hpos hne hd h3 hq]at g2
       injection g2 with g2
       subst g2
       rw [MT.mk_put2 p q T k k'' ha hq]
       exact g1
theorem a_6 {n:aK} {o:yK} (h:o.kind=1):q9 n o=(L8 n).filter (jK o.path) ++ [o.path.dropLast,o.path]:=by unfold q9;rw [if_pos h]
theorem a_7 {n:aK} {o:yK} (h:o.kind=2):q9 n o= [o.path.dropLast]:=by unfold q9;rw [if_neg (by omega),if_pos h]
theorem I6 {n:aK} {o:yK} (h:o.kind=3):q9 n o=o.path.dropLast::(if 0 < iJ o.path then [j5 o.path] else []):=by unfold q9;rw [if_neg (by omega),if_neg (by omega),if_pos h]
theorem E7 {n:aK} {o:yK} (h:o.kind=5):q9 n o=o.dest.dropLast::(kY o.path.dropLast o).toList:=by unfold q9;rw [if_neg (by omega),if_neg (by omega),if_neg (by omega)]
theorem m_b {n:aK} {q:List Int} (h:jV n q=true):∃k,kK n q=some k/\aZ k=false:=by
 unfold jV at h
 cases hat:kK n q with
 | none=>rw [hat]at h;cases h
 | some k=>rw [hat]at h;exact⟨k,rfl,by simpa using h⟩
theorem g_Z {T k:MT} {p q:List Int} {j:Nat} (ha:T.at_ p=some k) (hx:∀x,k.kids[j]? =some x ->x.kids= []) (h:jK (p ++ [(j:Int)]) q=true):jV T.bare q=false:=by
 cases he:jV T.bare q with
 | false=>rfl
 | true=>
   obtain⟨hl,r,rfl⟩:=i_B.1 h
   rw [List.append_assoc,c_G ha]at he
   obtain⟨m,hm, -⟩:=m_b he
   rw [MT.at_bare]at hm
   cases hm2:k.at_ ([(j:Int)] ++ r)with
   | none=>rw [hm2]at hm;cases hm
   | some y=>
     obtain⟨i,hi,hj,h3⟩:=MT.at_cons_some hm2
     obtain rfl:j=i:=by omega
     cases r with
     | nil=>simp at hl
     | cons c r=>
       obtain⟨i,rfl,hi2, -⟩:=MT.at_cons_some h3
       rw [hx _ (List.getElem?_eq_getElem hj)]at hi2
       simp at hi2
theorem i_R {T k:MT} {p:List Int} {j:Nat} {x:aK} (ha:T.at_ p=some k) (hx:∀x,k.kids[j]? =some x ->x.kids= []):∀q,jV T.bare q=true ->(q∈q9 T.bare (yK.under (j7.full ⟨1, [(j:Int)], [],0,x, []⟩) p) ↔ ∃b∈ [[], [(j:Int)]],q=p ++ b):=by
 intro q he
 rw [a_6 rfl]
 show q∈ (L8 T.bare).filter (jK (p ++ [(j:Int)])) ++ [(p ++ [(j:Int)]).dropLast,p ++ [(j:Int)]] ↔ _
 rw [m9,List.mem_append,List.mem_filter]
 constructor
 . rintro (⟨-,h⟩ | h)
   . rw [g_Z ha hx h]at he;cases he
   . rcases List.mem_cons.1 h with rfl | h
     . exact⟨[],by simp,by simp⟩
     . exact⟨[(j:Int)],by simp,List.mem_singleton.1 h⟩
 . rintro ⟨b,hb,rfl⟩
   rcases List.mem_cons.1 hb with rfl | hb
   . exact .inr (by simp)
   . rw [List.mem_singleton.1 hb];exact .inr (by simp)
theorem i_S (n x:aK) (p:List Int) (j:Nat) (q:List Int):q∈q9 n (yK.under (j7.full ⟨2, [(j:Int)], [],0,x, []⟩) p) ↔ ∃b∈ [([]:List Int)],q=p ++ b:=by
 rw [a_7 rfl]
 show q∈ [(p ++ [(j:Int)]).dropLast] ↔ _
 rw [m9];simp
theorem i_T (n:aK) (p:List Int) (j:Nat) (z:Int) (ol:List eK) (q:List Int):q∈q9 n (yK.under (j7.full ⟨3, [((j+1:Nat):Int)], [],z,bZ,ol⟩) p) ↔ ∃b∈ [[], [(j:Int)]],q=p ++ b:=by
 rw [I6 rfl]
 show q∈ (p ++ [((j+1:Nat):Int)]).dropLast::(if 0 < iJ (p ++ [((j+1:Nat):Int)]) then [j5 (p ++ [((j+1:Nat):Int)])] else []) ↔ _
 unfold j5
 rw [m9,vV,if_pos (by omega),show (((j+1:Nat):Int) - 1)=(j:Int)by omega]
 simp
theorem i_U {o:yK} (h1:bQ o.path=true) (h2:bQ o.dest=true) (h3:AJ o.pos=false) (h4:o.path≠ []) (h5:o.kind=5) (h6:o.dest≠ []):kY [] o=some []:=by
 rw [a_5 (by simp only [xQ,L6,h1,h2,h3];rfl) h4 h5,q8 h4,if_neg (by decide),if_neg (by decide)]
 unfold eJ
 rw [q8 h6,if_pos rfl]
theorem h_0 {n:aK} {p:List Int} {j t:Nat} (hp:bQ p=true) (hj:j+1 <= 1048576) (ht:t <= 1048576) (q:List Int):q∈q9 n (yK.under (j7.full ⟨5, [(j:Int)+1], [(j:Int),(t:Int)],0,bZ, []⟩) p) ↔ ∃b∈ [[], [(j:Int)]],q=p ++ b:=by
 have e:kY p (yK.under (j7.full ⟨5, [(j:Int)+1], [(j:Int),(t:Int)],0,bZ, []⟩) p)=some p:=by
  have h:=L5 (p:=p) (b:= []) (o:=j7.full ⟨5, [(j:Int)+1], [(j:Int),(t:Int)],0,bZ, []⟩) hp (by simp) (by simp)
  rw [List.append_nil]at h
  rw [h,i_U (by rw [show ((j:Int)+1)=((j+1:Nat):Int)by omega,nJ,gV hj];rfl) (by rw [G1,gV (show j <= 1048576 by omega),gV ht];rfl) e_s (by simp) rfl (by simp)]
  simp
 rw [E7 rfl]
 show q∈ (p ++ [(j:Int),(t:Int)]).dropLast::(kY (p ++ [(j:Int)+1]).dropLast (yK.under _ p)).toList ↔ _
 rw [m9,e,show p ++ [(j:Int),(t:Int)]=(p ++ [(j:Int)]) ++ [(t:Int)]by simp,m9]
 simp only [Option.toList,List.mem_cons,List.not_mem_nil,or_false]
 constructor
 . rintro (rfl | rfl)
   . exact⟨[(j:Int)],by simp,rfl⟩
   . exact⟨[],by simp,by simp⟩
 . rintro ⟨b,rfl | rfl,rfl⟩
   . exact .inr (by simp)
   . exact .inl rfl
theorem h_1 {n:aK} {p:List Int} {j d:Nat} (hp:bQ p=true) (hj:j <= 1048576) (hd:d <= 1048576) (hjd:j < d) (q:List Int):q∈q9 n (yK.under (j7.full ⟨5, [(j:Int),0], [(d:Int)],0,bZ, []⟩) p) ↔ ∃b∈ [[], [(j:Int)]],q=p ++ b:=by
 have e:kY (p ++ [(j:Int)]) (yK.under (j7.full ⟨5, [(j:Int),0], [(d:Int)],0,bZ, []⟩) p)=some (p ++ [(j:Int)]):=by
  rw [L5 (p:=p) (b:= [(j:Int)]) (o:=j7.full ⟨5, [(j:Int),0], [(d:Int)],0,bZ, []⟩) hp (by simp) (by simp),vZ hj hd (by rw [nJ,gV hj];rfl)]
  simp only [if_true]
  rw [xK,if_neg (by omega)]
  rfl
 rw [E7 rfl]
 show q∈ (p ++ [(d:Int)]).dropLast::(kY (p ++ [(j:Int),0]).dropLast (yK.under _ p)).toList ↔ _
 rw [m9,show p ++ [(j:Int),0]=(p ++ [(j:Int)]) ++ [0]by simp,m9,e]
 simp only [Option.toList,List.mem_cons,List.not_mem_nil,or_false]
 constructor
 . rintro (rfl | rfl)
   . exact⟨[],by simp,by simp⟩
   . exact⟨[(j:Int)],by simp,rfl⟩
 . rintro ⟨b,rfl | rfl,rfl⟩
   . exact .inl (by simp)
   . exact .inr rfl
end Go.Proofs.YtmadpclcmjahoaaGreatDoor
