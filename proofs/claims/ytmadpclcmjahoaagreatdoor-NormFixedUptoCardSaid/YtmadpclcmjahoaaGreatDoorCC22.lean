/- Parts of the proof: CC22. -/
import Derived.Test.YtmadpclcmjahoaaGreatDoorCC21
set_option linter.unusedVariables false
set_option linter.unusedSimpArgs false
set_option maxHeartbeats 8000000
set_option maxRecDepth 100000
namespace Go.Proofs.YtmadpclcmjahoaaGreatDoor
open Go.RowKit Go.Redl
theorem l_h (x y c:Int) (r:List Int):fX (c::r) [x,y]=if c=x then x::fX r [y] else c::r:=by
 by_cases h:c=x
 . subst h
   rw [if_pos rfl];exact J8 (p:= [c]) (a:= [y]) (b:=r) P6
 rw [if_neg h];unfold fX;rw [a_W (Ne.symm h),if_pos rfl]
theorem DJ {j t:Nat} {q:List Int} (hj:j+1 <= 1048576) (ht:t <= 1048576) (hq:bX q=true):nJ q (fZ.full ⟨5, [(j:Int)+1], [(j:Int),(t:Int)],0,cV, []⟩)=
 match q with
 | []=>some []
 | c::r=>if c=(j:Int)+1 then some ((j:Int)::(t:Int)::r) else if (j:Int)+1 < c then some ((c - 1)::r) else if c=j then some ((j:Int)::fX r [(t:Int)]) else some (c::r):=by
 have e:((j:Int)+1)=((j+1:Nat):Int):=P2
 rw [e,b_k (by simp only [C1,hq,rY,KZ,h_3,iZ hj,iZ (show j <= 1048576 by omega),iZ ht];rfl) P6 rfl]
 dsimp only [fZ.full]
 cases q with
 | nil=>
   rw [uV P6,if_neg P9,if_neg P9]
   simp [fX,uV]
 | cons c r=>
   have s1:=AJ ((j+1:Nat):Int) c r
   dsimp only
   by_cases h1:((j+1:Nat):Int)=c
   . have h:cZ [((j+1:Nat):Int)] (c::r)=3∨cZ [((j+1:Nat):Int)] (c::r)=2:=by
      rw [s1,if_pos h1];by_cases hr:r= []
      . simp [hr]
      simp [hr]
     rw [if_pos h,if_pos h1.symm];rfl
   rw [if_neg h1]at s1
   by_cases h2:((j+1:Nat):Int) < c
   . rw [if_pos h2]at s1
     rw [s1,if_neg P9,if_pos rfl,if_neg (Ne.symm h1),if_pos h2]
     show some (fX (fJ (c::r) 0 (-1)) [(j:Int),(t:Int)])=_
     rw [AK,l_h,if_neg P2, <- Int.sub_eq_add_neg]
   rw [if_neg h2]at s1;rw [s1,if_neg P9,if_neg P9,if_neg (Ne.symm h1),if_neg h2,l_h]
   split <;> rfl
theorem m_y {k x:MT} {j t:Nat} (hj:j+1 < k.kids.length) (b:j+1 <= 1048576) (d:t <= 1048576) (hx:k.kids[j]=x) (ht:x.kids.length=t) (hs:∀q,k.mk? q=true ->bX q=true):
 m_v k (k.setKids ((k.kids.eraseIdx (j+1)).set j (x.setKids (x.kids ++ [k.kids[j+1]])))) (fZ.full ⟨5, [(j:Int)+1], [(j:Int),(t:Int)],0,cV, []⟩):=by
 have a:∀c:Nat,((k.kids.eraseIdx (j+1)).set j (x.setKids (x.kids ++ [k.kids[j+1]])))[c]? =if c=j then some (x.setKids (x.kids ++ [k.kids[j+1]])) else if c < j then k.kids[c]? else k.kids[c+1]? :=by
  intro c;rw [List.getElem?_set];split
  . rename_i h
    subst h;rw [if_pos WY,if_pos rfl]
  rename_i h
  rw [if_neg (Ne.symm h),List.getElem?_eraseIdx];split
  . rename_i h2;rw [if_pos P2]
  rename_i h2;rw [if_neg P2]
 have f:k.kids[j]? =some x:=by rw [NV P2,hx]
 have g:k.kids[j+1]? =some k.kids[j+1]:=NV hj;generalize k.kids[j+1]=y at a g⊢;intro q';constructor
 . intro h
   cases q' with
   | nil=>
     have h2:k.mk? []=true:=S8
     exact⟨[],h2,DJ b d (hs _ h2)⟩
   | cons c r=>
     obtain⟨i,rfl, -, -⟩:=MT.mk_cons_true h;rw [gZ,MT.kids_setKids,a]at h;by_cases h1:i=j
     . subst h1
       rw [if_pos rfl]at h;simp only at h;cases r with
       | nil=>
         have h2:k.mk? [(i:Int)]=true:=by rw [gZ,f];simp only;rw [MT.mk_nil]at h⊢;rwa [MT.mark_setKids]at h
         refine⟨_,h2, ?_⟩;rw [DJ b d (hs _ h2)];simp only;rw [if_neg P2,if_neg P2,if_pos trivial,IX]
       | cons e r=>
         obtain⟨z,rfl,hz,h2⟩:=MT.mk_cons_true h;simp only [MT.kids_setKids]at hz h2;by_cases l:z < x.kids.length
         . rw [List.getElem_append_left l]at h2
           have h3:k.mk? ((i:Int)::(z:Int)::r)=true:=by rw [gZ,f];simp only;rw [MT.mk_cons l];exact h2
           refine⟨_,h3, ?_⟩;rw [DJ b d (hs _ h3)];simp only;rw [if_neg P2,if_neg P2,if_pos trivial,C0,if_neg P2]
         have m:z=x.kids.length:=by simp at hz;omega
         subst m;rw [List.getElem_append_right (a8)]at h2;simp only [Nat.sub_self,List.getElem_singleton]at h2;have h3:k.mk? (((i+1:Nat):Int)::r)=true:=by rw [gZ,g];exact h2
         refine⟨_,h3, ?_⟩;rw [DJ b d (hs _ h3)];simp only;rw [if_pos P2,ht]
     rw [if_neg h1]at h
     by_cases h2:i < j
     . rw [if_pos h2]at h
       have h3:k.mk? ((i:Int)::r)=true:=W7
       refine⟨_,h3, ?_⟩;rw [DJ b d (hs _ h3)];simp only;rw [if_neg P2,if_neg P2,if_neg P2]
     rw [if_neg h2]at h;have h3:k.mk? (((i+1:Nat):Int)::r)=true:=W7
     refine⟨_,h3, ?_⟩;rw [DJ b d (hs _ h3)];simp only;rw [if_neg P2,if_pos P2,show (((i+1:Nat):Int) - 1)=(i:Int)by omega]
 rintro⟨q,h1,h2⟩;rw [DJ b d (hs _ h1)]at h2;cases q with
 | nil=>
   have:q'= []:=WJ
   subst this;rw [MT.mk_nil]at h1⊢;rwa [MT.mark_setKids]
 | cons c r=>
   obtain⟨i,rfl, -, -⟩:=MT.mk_cons_true h1;rw [gZ]at h1;simp only at h2;split at h2
   . rename_i he
     obtain rfl:i=j+1:=P2
     obtain rfl:(j:Int)::(t:Int)::r=q':=R5
     rw [g]at h1;rw [gZ,MT.kids_setKids,a,if_pos rfl];simp only;rw [gZ,MT.kids_setKids,OX P2,ht]
     simpa using h1
   split at h2
   . obtain rfl:((i:Int) - 1)::r=q':=R5
     rw [show ((i:Int) - 1)=((i - 1:Nat):Int)by omega,gZ,MT.kids_setKids,a,if_neg P2,if_neg P2,show i - 1+1=i by omega];exact h1
   split at h2
   . rename_i he
     obtain rfl:i=j:=P2
     obtain rfl:(i:Int)::fX r [(t:Int)]=q':=R5
     rw [f]at h1;simp only at h1;rw [gZ,MT.kids_setKids,a,if_pos rfl];simp only;cases r with
     | nil=>rw [IX,MT.mk_nil,MT.mark_setKids];exact h1
     | cons e r=>
       obtain⟨z,rfl,hz,h4⟩:=MT.mk_cons_true h1;rw [C0,if_neg P2,gZ,MT.kids_setKids,List.getElem?_append_left hz,NV hz];exact h4
   obtain rfl:(i:Int)::r=q':=R5
   rw [gZ,MT.kids_setKids,a,if_neg P2,if_pos P2];exact h1
theorem B4 {j d:Nat} {q:List Int} (hj:j <= 1048576) (hd:d <= 1048576) (hq:bX q=true):nJ q (fZ.full ⟨5, [(j:Int),0], [(d:Int)],0,cV, []⟩)=
 match q with
 | []=>some []
 | c ::r=>if c=(j:Int) then (match r with
     | []=>some (fX [(j:Int)] [(d:Int)])
     | e::r2=>if e=0 then some ((d:Int)::r2) else if 0 < e then some (fX ((j:Int)::(e - 1)::r2) [(d:Int)]) else some (fX ((j:Int)::e::r2) [(d:Int)]))
   else some (fX (c::r) [(d:Int)]):=by
 rw [b_k (by simp only [C1,hq,rY,KZ,h_3,iZ hj,iZ hd];rfl) P6 rfl]
 dsimp only [fZ.full]
 cases q with
 | nil=>rw [uV P6,if_neg P9,if_neg P9,IX]
 | cons c r=>
   dsimp only
   by_cases h1:c=(j:Int)
   . subst h1
     rw [f_A,if_pos rfl];cases r with
     | nil=>rw [uV P6,if_neg P9,if_neg P9]
     | cons e r2=>
       have s1:=AJ 0 e r2
       dsimp only
       by_cases h2:e=0
       . subst h2
         have h:cZ [(0:Int)] (0::r2)=3∨cZ [(0:Int)] (0::r2)=2:=by
          rw [s1,if_pos rfl];by_cases hr:r2= []
          . simp [hr]
          simp [hr]
         rw [if_pos h,if_pos rfl];rfl
       rw [if_neg (Ne.symm h2)]at s1
       by_cases h3:(0:Int) < e
       . rw [if_pos h3]at s1
         rw [s1,if_neg P9,if_pos rfl,if_neg h2,if_pos h3]
         show some (fX (fJ ((j:Int)::e::r2) 1 (-1)) [(d:Int)])=_
         rw [g_8, <- Int.sub_eq_add_neg]
       rw [if_neg h3]at s1;rw [s1,if_neg P9,if_neg P9,if_neg h2,if_neg h3]
   rw [a_W (Ne.symm h1),if_neg P9,if_neg P9,if_neg h1]
theorem m_z {k x y:MT} {ys:List MT} {j d:Nat} (hj:j < k.kids.length) (b:j <= 1048576) (f:d <= 1048576) (hx:k.kids[j]=x) (hy:x.kids=y::ys) (l:j < d) (hd:d <= k.kids.length) (hs:∀q,k.mk? q=true ->bX q=true):
 m_v k (k.setKids (M8 (k.kids.set j (x.setKids ys)) d y)) (fZ.full ⟨5, [(j:Int),0], [(d:Int)],0,cV, []⟩):=by
 have a:∀c:Nat,(M8 (k.kids.set j (x.setKids ys)) d y)[c]? =if c < d then (if c=j then some (x.setKids ys) else k.kids[c]?) else if c=d then some y else k.kids[c - 1]? :=by
  intro c;rw [a_o (by rw [List.length_set];exact hd)]
  split
  . rw [List.getElem?_set]
    split
    . rename_i h;subst h;rw [if_pos rfl]
    rename_i h;rw [if_neg (Ne.symm h)]
  split
  . rfl
  rw [List.getElem?_set_ne P2]
 have g:k.kids[j]? =some x:=by rw [NV hj,hx]
 intro q';constructor
 . intro h
   cases q' with
   | nil=>
     have h2:k.mk? []=true:=S8
     exact⟨[],h2,B4 b f (hs _ h2)⟩
   | cons c r=>
     obtain⟨i,rfl, -, -⟩:=MT.mk_cons_true h;rw [gZ,MT.kids_setKids,a]at h;by_cases h1:i < d
     . rw [if_pos h1]at h
       by_cases h2:i=j
       . subst h2
         rw [if_pos rfl]at h;simp only at h;cases r with
         | nil=>
           have h3:k.mk? [(i:Int)]=true:=by rw [gZ,g];simp only;rw [MT.mk_nil]at h⊢;rwa [MT.mark_setKids]at h
           refine⟨_,h3, ?_⟩;rw [B4 b f (hs _ h3)];simp only;rw [if_pos trivial,C0,if_neg P2]
         | cons e r=>
           obtain⟨z,rfl,hz,h3⟩:=MT.mk_cons_true h;simp only [MT.kids_setKids]at hz h3;have h4:k.mk? ((i:Int)::((z+1:Nat):Int)::r)=true:=by
            rw [gZ,g];simp only;rw [gZ,hy,List.getElem?_cons_succ,NV hz];exact h3
           refine⟨_,h4, ?_⟩;rw [B4 b f (hs _ h4)];simp only;rw [if_pos trivial,if_neg P2,if_pos P2,C0,if_neg P2,show (((z+1:Nat):Int) - 1)=(z:Int)by omega]
       rw [if_neg h2]at h;have h3:k.mk? ((i:Int)::r)=true:=W7
       refine⟨_,h3, ?_⟩;rw [B4 b f (hs _ h3)];simp only;rw [if_neg P2,C0,if_neg P2]
     rw [if_neg h1]at h
     by_cases h2:i=d
     . subst h2
       rw [if_pos rfl]at h;simp only at h;have h3:k.mk? ((j:Int)::((0:Nat):Int)::r)=true:=by rw [gZ,g];simp only;rw [gZ,hy];exact h
       refine⟨_,h3, ?_⟩;rw [B4 b f (hs _ h3)];simp only;rw [if_pos trivial,if_pos P2]
     rw [if_neg h2]at h;have h3:k.mk? (((i - 1:Nat):Int)::r)=true:=W7
     refine⟨_,h3, ?_⟩;rw [B4 b f (hs _ h3)];simp only;rw [if_neg P2,C0,if_pos P2,show (((i - 1:Nat):Int)+1)=(i:Int)by omega]
 rintro⟨q,h1,h2⟩;rw [B4 b f (hs _ h1)]at h2;cases q with
 | nil=>
   have:q'= []:=WJ
   subst this;rw [MT.mk_nil]at h1⊢;rwa [MT.mark_setKids]
 | cons c r=>
   obtain⟨i,rfl, -, -⟩:=MT.mk_cons_true h1;rw [gZ]at h1;simp only at h2;split at h2
   . rename_i he
     obtain rfl:i=j:=P2
     rw [g]at h1;simp only at h1;cases r with
     | nil=>
       simp only at h2;rw [C0,if_neg P2]at h2;obtain rfl: [(i:Int)]=q':=R5
       rw [gZ,MT.kids_setKids,a,if_pos l,if_pos rfl];simp only;rw [MT.mk_nil]at h1⊢;rwa [MT.mark_setKids]
     | cons e r=>
       obtain⟨z,rfl,hz,h4⟩:=MT.mk_cons_true h1;rw [gZ,hy]at h1;simp only at h2;split at h2
       . rename_i h0
         obtain rfl:z=0:=P2
         obtain rfl:(d:Int)::r=q':=R5
         rw [gZ,MT.kids_setKids,a,if_neg P2,if_pos rfl];exact h1
       rename_i h0
       rw [if_pos P2,C0,if_neg P2]at h2;obtain rfl:(i:Int)::((z:Int) - 1)::r=q':=R5
       rw [gZ,MT.kids_setKids,a,if_pos l,if_pos rfl];simp only;rw [show ((z:Int) - 1)=((z - 1:Nat):Int)by omega,gZ,MT.kids_setKids];rw [show z=(z - 1)+1 by omega,List.getElem?_cons_succ]at h1;exact h1
   rename_i n
   rw [C0]at h2;split at h2
   . rename_i m
     obtain rfl:((i:Int)+1)::r=q':=R5
     rw [show ((i:Int)+1)=((i+1:Nat):Int)by omega,gZ,MT.kids_setKids,a,if_neg P2,if_neg P2,show i+1 - 1=i by omega];exact h1
   rename_i m
   obtain rfl:(i:Int)::r=q':=R5
   rw [gZ,MT.kids_setKids,a,if_pos P2,if_neg P2];exact h1
def uX (n:aX) (o:C9):List (List Int):=
 if o.kind=1 then (xQ n).filter (kJ o.path) ++ [o.path.dropLast,o.path]
 else if o.kind=2 then [o.path.dropLast]
 else if o.kind=3 then o.path.dropLast::(if 0 < jK o.path then [kX o.path] else [])
 else o.dest.dropLast::(nJ o.path.dropLast o).toList
def IY (n:aX) (L:List (List Int)) (o:C9):List (List Int):=oY ((uX n o ++ L.filterMap (nJ · o)).filter (dX n))
def mY:aX ->List (List Int) ->List C9 ->List (List Int)
 | _,L, []=>L
 | n,L,o::os=>mY (nZ n o).1 (IY (nZ n o).1 L o) os
theorem nQ {n m:aX} {L:List (List Int)} {o:C9} {l:List C9} (h:nZ n o=(m,0)):mY n L (o::l)=mY m (IY m L o) l:=by
 conv=>lhs;unfold mY
 rw [h]
theorem a_p:∀ (a b:List C9) (n m:aX) (L:List (List Int)),oZ n a=some m ->mY n L (a ++ b)=mY m (mY n L a) b
 | [],b,n,m,L,h=>by
   have e:n=m:=by simpa [oZ]using h
   subst e;rfl
 | o::a,b,n,m,L,h=>by
   obtain⟨T,h1,h2⟩:∃T,nZ n o=(T,0)/\oZ T a=some m:=by
    rw [LX]at h;split at h
    . rename_i h0;exact⟨(nZ n o).1,by rw [<- h0],h⟩
    cases h
   rw [List.cons_append,nQ h1,nQ h1,a_p a b T m _ h2]
inductive MT.Ok:MT ->Prop
 | mk {m l:Bool} {ps:List fQ} {t:List Int} {ks:List MT} (h:m=true ->l=false) (hk:∀k∈ks,MT.Ok k):MT.Ok (.mk m l ps t ks)
theorem MT.Ok.kids {T:MT} (h:T.Ok):∀k∈T.kids,k.Ok:=by cases h;assumption
theorem MT.Ok.leaf {T:MT} (h:T.Ok) (hm:T.mark=true):b8 T.bare=false:=by cases h;rename_i h1 h2;exact h1 hm
theorem MT.Ok.setKids {T:MT} {L:List MT} (h:T.Ok) (hL:∀k∈L,k.Ok):(T.setKids L).Ok:=by
 cases h;rename_i h1 h2;exact .mk h1 hL
theorem MT.Ok.at_:∀ (p:List Int) {T k:MT},T.Ok ->T.at_ p=some k ->k.Ok
 | [],T,k,h,ha=>by
   have e:T=k:=YQ
   subst e;exact h
 | i::p,T,k,h,ha=>by
   obtain⟨j,rfl,hj,h2⟩:=MT.at_cons_some ha;exact MT.Ok.at_ p (h.kids _ (NY hj)) h2
theorem MT.Ok.put:∀ (p:List Int) {T k:MT},T.Ok ->k.Ok ->(T.put p k).Ok
 | [],T,k,h,hk=>by simpa [MT.put]using hk
 | i ::p,T,k,h,hk=>by
   unfold MT.put;split
   . rename_i k0 h0
     refine h.setKids fun x hx=> ?_
     rcases List.mem_or_eq_of_mem_set hx with hx | rfl
     . exact h.kids x hx
     exact MT.Ok.put p (h.kids k0 (List.mem_of_getElem? h0)) hk
   exact h
theorem MT.Ok.elem:∀ (q:List Int) {T:MT},T.Ok ->T.mk? q=true ->dX T.bare q=true:=by
 intro q T h hm;obtain⟨t,h1,h2⟩:=(MT.mk_at q T).1 hm;unfold dX;rw [MT.at_bare,h1];show (!b8 t.bare)=true;rw [(MT.Ok.at_ q h h1).leaf h2];rfl
def MT.markIt:MT ->MT
 | .mk _ l ps t ks=> .mk true l ps t ks
theorem MT.bare_markIt (T:MT):T.markIt.bare=T.bare:=SV
theorem MT.kids_markIt (T:MT):T.markIt.kids=T.kids:=SV
theorem MT.mark_markIt (T:MT):T.markIt.mark=true:=SV
theorem MT.markIt_markIt (T:MT):T.markIt.markIt=T.markIt:=SV
theorem MT.markIt_self {T:MT} (h:T.mark=true):T.markIt=T:=by cases T;simp only [MT.mark]at h;subst h;rfl
theorem MT.markIt_setKids (T:MT) (L:List MT):(T.setKids L).markIt=T.markIt.setKids L:=SV
theorem MT.mk_markIt (T:MT) (b:List Int):T.markIt.mk? b=true ↔ T.mk? b=true∨b= []:=by
 cases b with
 | nil=>simp [MT.mk_nil,MT.mark_markIt]
 | cons c r=>
   have:T.markIt.mk? (c::r)=T.mk? (c::r):=by
    conv=>lhs;unfold MT.mk?
    conv=>rhs;unfold MT.mk?
    rw [MT.kids_markIt]
   rw [this];simp
theorem MT.Ok.markIt {T:MT} (h:T.Ok) (hl:b8 T.bare=false):T.markIt.Ok:=by
 cases h;rename_i h1 h2;exact .mk (fun _=>hl) h2
def wV (L:List (List Int)) (T:MT):Prop:=pK L/\∀q,q∈L ↔ T.mk? q=true
theorem m_A {T T':MT} {L:List (List Int)} {o:C9} (h:wV L T) (hm:∀q',T'.mk? q'=true ↔ dX T'.bare q'=true/\(q'∈uX T'.bare o∨ ∃q,T.mk? q=true/\nJ q o=some q')):wV (IY T'.bare L o) T':=by
 refine⟨j8 _,fun q=> ?_⟩;unfold IY;rw [m4,List.mem_filter,List.mem_append,List.mem_filterMap,hm];constructor
 . rintro ⟨h1 | ⟨q0,h2,h3⟩,h4⟩
   . exact⟨h4, .inl h1⟩
   exact⟨h4, .inr ⟨q0,(h.2 q0).1 h2,h3⟩⟩
 rintro⟨h4,h1 | ⟨q0,h2,h3⟩⟩
 . exact⟨.inl h1,h4⟩
 exact⟨.inr ⟨q0,(h.2 q0).2 h2,h3⟩,h4⟩
theorem MT.mk_put2:∀ (p q:List Int) (T k m:MT),T.at_ p=some k ->¬p <+:q ->(T.put p m).mk? q=T.mk? q
 | [],q,T,k,m,h,h1=>absurd List.nil_prefix h1
 | i::p, [],T,k,m,h,h1=>by
   obtain⟨j,rfl,hj,h2⟩:=MT.at_cons_some h;rw [MT.put_cons hj];show (T.setKids _).mark=T.mark;rw [MT.mark_setKids]
 | i ::p,c::q,T,k,m,h,h1=>by
   obtain⟨j,rfl,hj,h2⟩:=MT.at_cons_some h;rw [MT.put_cons hj];by_cases hc:c=(j:Int)
   . subst hc
     have a:j < (T.setKids (T.kids.set j (T.kids[j].put p m))).kids.length:=S9
     rw [MT.mk_cons a,MT.mk_cons hj];simp only [MT.kids_setKids,List.getElem_set_self];exact MT.mk_put2 p q _ k m h2 (fun h=>h1 (List.cons_prefix_cons.2 ⟨rfl,h⟩))
   conv=>lhs;unfold MT.mk?
   conv=>rhs;unfold MT.mk?
   split
   . rw [MT.kids_setKids,List.getElem?_set_ne P2]
   rfl
theorem e_J {T k:MT} {p:List Int} (ha:T.at_ p=some k) (b:List Int):dX T.bare (p ++ b)=dX k.bare b:=by
 unfold dX;rw [MT.at_bare,MT.at_append,ha,MT.at_bare];rfl
theorem GZ {T k k' k'':MT} {p:List Int} {o:C9} {L ms:List (List Int)} (hL:wV L T) (ha:T.at_ p=some k) (hT:T.Ok) (hw:T.bare.wt <= 1048576) (ho:bX o.path=true) (g:bX o.dest=true) (f:D3 o.pos=false) (d:o.path≠ []) (hd:o.kind=5 ->o.dest≠ [])
 (h3:o.kind=3 ->jK o.path≠0) (hg:m_v k k' o) (hk:k''.Ok) (h1:∀b,k''.mk? b=true ->k'.mk? b=true∨b∈ms) (h2:∀b,k'.mk? b=true ->k''.mk? b=true) (h4:∀b∈ms,dX k''.bare b=true ->k''.mk? b=true)
 (i:∀q',dX (T.put p k'').bare q'=true ->(q'∈uX (T.put p k'').bare (o.under p) ↔ ∃b∈ms,q'=p ++ b)):wV (IY (T.put p k'').bare L (o.under p)) (T.put p k''):=by
 have hp:bX p=true:=a_n p T.bare k.bare QK hw;have hs:∀q,T.mk? q=true ->bX q=true:=fun q h=>MT.small h hw
 have a:=MT.at_put p T k k'' ha;have hE:(T.put p k'').Ok:=MT.Ok.put p hT hk;refine m_A hL fun q'=>⟨fun h=> ?_, ?_⟩
 . have he:=MT.Ok.elem q' hE h
   refine⟨he, ?_⟩
   by_cases hq:p <+:q'
   . obtain ⟨b,rfl⟩:=hq
     rw [MT.mk_app p b _ _ a]at h;rcases h1 b h with h | h
     . obtain ⟨q,g1,g2⟩:=(hg b).1 h
       exact .inr ⟨p ++ q,by rw [MT.mk_app p q T k ha];exact g1,by rw [a_F hp d hd,g2];rfl⟩
     exact .inl ((i _ he).2 ⟨b,h,rfl⟩)
   rw [MT.mk_put2 p q' T k k'' ha hq]at h;exact .inr ⟨q',h,d_m (hs q' h) hp ho g f d hd h3 hq⟩
 rintro⟨he,h | ⟨q,g1,g2⟩⟩
 . obtain ⟨b,hb,rfl⟩:=(i q' he).1 h
   rw [e_J a]at he;rw [MT.mk_app p b _ _ a];exact h4 b hb he
 by_cases hq:p <+:q
 . obtain ⟨b,rfl⟩:=hq
   rw [MT.mk_app p b T k ha]at g1;rw [a_F hp d hd]at g2;cases hb:nJ b o with
   | none=>rw [hb]at g2;cases g2
   | some c=>
     rw [hb]at g2;have e:p ++ c=q':=by simpa using g2
     subst e;rw [MT.mk_app p c _ _ a];exact h2 c ((hg c).2 ⟨b,g1,hb⟩)
 rw [d_m (hs q g1) hp ho g f d hd h3 hq]at g2;injection g2 with g2
 subst g2;rw [MT.mk_put2 p q T k k'' ha hq];exact g1
theorem b_l {n:aX} {o:C9} (h:o.kind=1):uX n o=(xQ n).filter (kJ o.path) ++ [o.path.dropLast,o.path]:=by unfold uX;rw [if_pos h]
theorem b_m {n:aX} {o:C9} (h:o.kind=2):uX n o= [o.path.dropLast]:=by unfold uX;rw [if_neg P2,if_pos h]
theorem M9 {n:aX} {o:C9} (h:o.kind=3):uX n o=o.path.dropLast::(if 0 < jK o.path then [kX o.path] else []):=by unfold uX;rw [if_neg P2,if_neg P2,if_pos h]
theorem IZ {n:aX} {o:C9} (h:o.kind=5):uX n o=o.dest.dropLast::(nJ o.path.dropLast o).toList:=by unfold uX;rw [if_neg P2,if_neg P2,if_neg P2]
theorem q_K {n:aX} {q:List Int} (h:dX n q=true):∃k,l9 n q=some k/\b8 k=false:=by
 unfold dX at h;cases a:l9 n q with
 | none=>rw [a]at h;cases h
 | some k=>rw [a]at h;exact⟨k,rfl,by simpa using h⟩
theorem k_a {T k:MT} {p q:List Int} {j:Nat} (ha:T.at_ p=some k) (hx:∀x,k.kids[j]? =some x ->x.kids= []) (h:kJ (p ++ [(j:Int)]) q=true):dX T.bare q=false:=by
 cases he:dX T.bare q with
 | false=>rfl
 | true=>
   obtain⟨hl,r,rfl⟩:=f_X.1 h;rw [O4,e_J ha]at he;obtain⟨m,hm, -⟩:=q_K he;rw [MT.at_bare]at hm;cases a:k.at_ ([(j:Int)] ++ r)with
   | none=>rw [a]at hm;cases hm
   | some y=>
     obtain⟨i,hi,hj,h3⟩:=MT.at_cons_some a;obtain rfl:j=i:=P2
     cases r with
     | nil=>simp at hl
     | cons c r=>
       obtain⟨i,rfl,b, -⟩:=MT.at_cons_some h3;rw [hx _ (NV hj)]at b;simp at b
theorem m_B {T k:MT} {p:List Int} {j:Nat} {x:aX} (ha:T.at_ p=some k) (hx:∀x,k.kids[j]? =some x ->x.kids= []):∀q,dX T.bare q=true ->(q∈uX T.bare (C9.under (fZ.full ⟨1, [(j:Int)], [],0,x, []⟩) p) ↔ ∃b∈ [[], [(j:Int)]],q=p ++ b):=by
 intro q he;rw [b_l rfl];show q∈ (xQ T.bare).filter (kJ (p ++ [(j:Int)])) ++ [(p ++ [(j:Int)]).dropLast,p ++ [(j:Int)]] ↔ _;rw [q8,List.mem_append,List.mem_filter];constructor
 . rintro (⟨-,h⟩ | h)
   . rw [k_a ha hx h]at he;cases he
   rcases OJ h with rfl | h
   . exact⟨[],by simp,by simp⟩
   exact⟨[(j:Int)],by simp,O9 h⟩
 rintro⟨b,hb,rfl⟩;rcases OJ hb with rfl | hb
 . exact .inr P6
 rw [O9 hb];exact .inr P6
theorem m_C (n x:aX) (p:List Int) (j:Nat) (q:List Int):q∈uX n (C9.under (fZ.full ⟨2, [(j:Int)], [],0,x, []⟩) p) ↔ ∃b∈ [([]:List Int)],q=p ++ b:=by
 rw [b_m rfl];show q∈ [(p ++ [(j:Int)]).dropLast] ↔ _;rw [q8];simp
theorem m_D (n:aX) (p:List Int) (j:Nat) (z:Int) (ol:List fQ) (q:List Int):q∈uX n (C9.under (fZ.full ⟨3, [((j+1:Nat):Int)], [],z,cV,ol⟩) p) ↔ ∃b∈ [[], [(j:Int)]],q=p ++ b:=by
 rw [M9 rfl];show q∈ (p ++ [((j+1:Nat):Int)]).dropLast::(if 0 < jK (p ++ [((j+1:Nat):Int)]) then [kX (p ++ [((j+1:Nat):Int)])] else []) ↔ _;unfold kX;rw [q8,AV,if_pos P2,show (((j+1:Nat):Int) - 1)=(j:Int)by omega]
 simp
theorem m_E {o:C9} (h1:bX o.path=true) (h2:bX o.dest=true) (h3:D3 o.pos=false) (h4:o.path≠ []) (h5:o.kind=5) (h6:o.dest≠ []):nJ [] o=some []:=by
 rw [b_k (by simp only [C1,a_H,h1,h2,h3];rfl) h4 h5,uV h4,if_neg P9,if_neg P9];unfold fX;rw [uV h6,if_pos rfl]
theorem k_b {n:aX} {p:List Int} {j t:Nat} (hp:bX p=true) (hj:j+1 <= 1048576) (ht:t <= 1048576) (q:List Int):q∈uX n (C9.under (fZ.full ⟨5, [(j:Int)+1], [(j:Int),(t:Int)],0,cV, []⟩) p) ↔ ∃b∈ [[], [(j:Int)]],q=p ++ b:=by
 have e:nJ p (C9.under (fZ.full ⟨5, [(j:Int)+1], [(j:Int),(t:Int)],0,cV, []⟩) p)=some p:=by
  have h:=a_F (p:=p) (b:= []) (o:=fZ.full ⟨5, [(j:Int)+1], [(j:Int),(t:Int)],0,cV, []⟩) hp P6 P6;rw [List.append_nil]at h;rw [h,m_E (by rw [show ((j:Int)+1)=((j+1:Nat):Int)by omega,rY,iZ hj];rfl) (by rw [KZ,iZ (show j <= 1048576 by omega),iZ ht];rfl) h_3 P6 rfl P6]
  simp
 rw [IZ rfl];show q∈ (p ++ [(j:Int),(t:Int)]).dropLast::(nJ (p ++ [(j:Int)+1]).dropLast (C9.under _ p)).toList ↔ _;rw [q8,e,show p ++ [(j:Int),(t:Int)]=(p ++ [(j:Int)]) ++ [(t:Int)]by simp,q8];simp only [Option.toList,List.mem_cons,List.not_mem_nil,or_false];constructor
 . rintro (rfl | rfl)
   . exact⟨[(j:Int)],by simp,rfl⟩
   exact⟨[],by simp,by simp⟩
 rintro⟨b,rfl | rfl,rfl⟩
 . exact .inr P6
 exact .inl rfl
theorem k_c {n:aX} {p:List Int} {j d:Nat} (hp:bX p=true) (hj:j <= 1048576) (hd:d <= 1048576) (a:j < d) (q:List Int):q∈uX n (C9.under (fZ.full ⟨5, [(j:Int),0], [(d:Int)],0,cV, []⟩) p) ↔ ∃b∈ [[], [(j:Int)]],q=p ++ b:=by
 have e:nJ (p ++ [(j:Int)]) (C9.under (fZ.full ⟨5, [(j:Int),0], [(d:Int)],0,cV, []⟩) p)=some (p ++ [(j:Int)]):=by
  rw [a_F (p:=p) (b:= [(j:Int)]) (o:=fZ.full ⟨5, [(j:Int),0], [(d:Int)],0,cV, []⟩) hp P6 P6,B4 hj hd (by rw [rY,iZ hj];rfl)];simp only [if_true];rw [C0,if_neg P2]
  rfl
 rw [IZ rfl];show q∈ (p ++ [(d:Int)]).dropLast::(nJ (p ++ [(j:Int),0]).dropLast (C9.under _ p)).toList ↔ _;rw [q8,show p ++ [(j:Int),0]=(p ++ [(j:Int)]) ++ [0]by simp,q8,e];simp only [Option.toList,List.mem_cons,List.not_mem_nil,or_false];constructor
 . rintro (rfl | rfl)
   . exact⟨[],by simp,by simp⟩
   exact⟨[(j:Int)],by simp,rfl⟩
 rintro⟨b,rfl | rfl,rfl⟩
 . exact .inl P6
 exact .inr rfl
theorem o_Q (kd pos:Int) (p d:List Int) (n0 n1 n2 n3:Value) (pa ta:Option Addr) (pc tc:Nat) (v4 v5 v6 v7 v8 v9 v10 v11 v12 v13 v14 v15 v16 v17 v18 v19 v20:Value) (W:World) (s:kd=2) (hp:RowA W W 1 pa p.length pc (p.map (Value.int .i64))) (u:p.length <= 400000) (k:p≠ []):
 Calls Tryz.prog 68 #[.agg #[n0,n1,n2,n3], .agg #[kd,(pa,p.length,pc),(ta,d.length,tc),pos,v4,v5,v6,v7,v8,v9,v10,v11,v12,v13,v14,v15,v16,v17,v18,v19,v20]] W (C8 W ([p.dropLast])):=by
 subst s;obtain⟨w0,b⟩:∃w0,w0=(W.alloc (Obj.cells #[n0,n1,n2,n3] 35)).alloc (Obj.cells #[.int .i64 2,(pa,p.length,pc),(ta,d.length,tc),pos,v4,v5,v6,v7,v8,v9,v10,v11,v12,v13,v14,v15,v16,v17,v18,v19,v20] 55):=⟨_,rfl⟩;have h:Below W W w0:=t_C
 have l:At w0 (W+1) [.int .i64 2,(pa,p.length,pc),(ta,d.length,tc),pos,v4,v5,v6,v7,v8,v9,v10,v11,v12,v13,v14,v15,v16,v17,v18,v19,v20] 55:=TV
 obtain⟨w1,c⟩:∃w1,w1=w0.alloc (Obj.cells #[.func (.func 128) #[] #[.pointer (some (P0 (W+1) 0))]] 176):=⟨_,rfl⟩;have i:Below w0 w0 w1:=WV
 have f:Below W W w1:=h.trans (i.mono h.size);have hA:At w1 (W+1) [.int .i64 2,(pa,p.length,pc),(ta,d.length,tc),pos,v4,v5,v6,v7,v8,v9,v10,v11,v12,v13,v14,v15,v16,v17,v18,v19,v20] 55:=l.kept i;have hU:At w1 w0 [.func (.func 128) #[] #[.pointer (some (P0 (W+1) 0))]] 176:=by rw [c];exact At.fresh w0 _ _
 have n:=hp.keep f f.size;have HS:=a6 (q_F _ _ 176 w1 rfl (e_z hA rfl n P2 k));have c0:=hA.cell 0 rfl;have cl:=hA.lt
 have u0:=hU.cell 0 rfl;have ul:=hU.lt
 have o:=a6 b;have q:=a6 c;have j:=a6 f
 have x:∀ (fn:Fn) (first cap:Array Value) (w:World),(Instr.makeFunc fn first cap).run Tryz.prog w= .ok (.func fn first cap) w:=fun _ _ _ _=>rfl
 have y:=fun(W:World) (a:Addr) (fn:Fn) (first cap:Array Value) (m:Mode)=>run_store Tryz.prog W a (.func fn first cap) m rfl
 clear b c h i f l hA hU hp n k;go_enter Tryz.func68,Tryz.ntmps68;go_upto_region 1 with fail;rw [<- o.o];clear o;go_upto_region 5 with fail
 rw [<- q.o];clear q;go_wp2_with fail;refine HS.o.mono ?_;rintro e w2 ⟨v,xs,rfl,hx,r,g⟩;obtain⟨va,vc,hv⟩:=hx.form;subst hv;have Hx:=a6 hx;have Hp:=a6 r;have t:=a6 (j.o.trans (g.mono j.o.size));have Hs:=a6 j.o.size
 clear hx r g HS c0 cl u0 ul;go_wp2_with fail;go_ret;exact⟨_,xs,rfl,Hx.o.from Hs.o Hs.o,Hp.o,t.o⟩
theorem o_R (kd pos:Int) (p d:List Int) (n0 n1 n2 n3:Value) (pa ta:Option Addr) (pc tc:Nat) (v4 v5 v6 v7 v8 v9 v10 v11 v12 v13 v14 v15 v16 v17 v18 v19 v20:Value) (W:World) (u:kd=3) (hp:RowA W W 1 pa p.length pc (p.map (Value.int .i64))) (y:p.length <= 400000) (i:p≠ []) (o:∀z∈p, -9223372036854775807 <= z/\z <= 9223372036854775807):
 Calls Tryz.prog 68 #[.agg #[n0,n1,n2,n3], .agg #[kd,(pa,p.length,pc),(ta,d.length,tc),pos,v4,v5,v6,v7,v8,v9,v10,v11,v12,v13,v14,v15,v16,v17,v18,v19,v20]] W (C8 W (p.dropLast::(if 0 < jK p then [kX p] else []))):=by
 subst u;obtain⟨w0,b⟩:∃w0,w0=(W.alloc (Obj.cells #[n0,n1,n2,n3] 35)).alloc (Obj.cells #[.int .i64 3,(pa,p.length,pc),(ta,d.length,tc),pos,v4,v5,v6,v7,v8,v9,v10,v11,v12,v13,v14,v15,v16,v17,v18,v19,v20] 55):=⟨_,rfl⟩;have j:Below W W w0:=t_C
 have q:At w0 (W+1) [.int .i64 3,(pa,p.length,pc),(ta,d.length,tc),pos,v4,v5,v6,v7,v8,v9,v10,v11,v12,v13,v14,v15,v16,v17,v18,v19,v20] 55:=TV
 obtain⟨w1,c⟩:∃w1,w1=w0.alloc (Obj.cells #[.func (.func 128) #[] #[.pointer (some (P0 (W+1) 0))]] 176):=⟨_,rfl⟩;have k:Below w0 w0 w1:=WV
 have f:Below W W w1:=j.trans (k.mono j.size);have hA:At w1 (W+1) [.int .i64 3,(pa,p.length,pc),(ta,d.length,tc),pos,v4,v5,v6,v7,v8,v9,v10,v11,v12,v13,v14,v15,v16,v17,v18,v19,v20] 55:=q.kept k;have hU:At w1 w0 [.func (.func 128) #[] #[.pointer (some (P0 (W+1) 0))]] 176:=by rw [c];exact At.fresh w0 _ _
 have l:=hp.keep f f.size;have HS:=a6 (g_Y _ _ _ _ 176 w1 rfl rfl (e_z hA rfl l P2 i) (k_1 hA rfl l P2 i o));have g:(some p.dropLast).toList ++ (if 0 < jK p then some (kX p) else none).toList=p.dropLast::(if 0 < jK p then [kX p] else []):=by split <;> rfl
 rw [g]at HS;clear g o;generalize p.dropLast::(if 0 < jK p then [kX p] else [])=R at HS⊢;have c0:=hA.cell 0 rfl;have cl:=hA.lt
 have u0:=hU.cell 0 rfl;have ul:=hU.lt
 have r:=a6 b;have s:=a6 c;have n:=a6 f
 have A:∀ (fn:Fn) (first cap:Array Value) (w:World),(Instr.makeFunc fn first cap).run Tryz.prog w= .ok (.func fn first cap) w:=fun _ _ _ _=>rfl
 have B:=fun(W:World) (a:Addr) (fn:Fn) (first cap:Array Value) (m:Mode)=>run_store Tryz.prog W a (.func fn first cap) m rfl
 clear b c j k f q hA hU hp l i;go_enter Tryz.func68,Tryz.ntmps68;go_upto_region 1 with fail;rw [<- r.o];clear r;go_upto_region 5 with fail
 rw [<- s.o];clear s;go_wp2_with fail;refine HS.o.mono ?_;rintro e w2 ⟨v,xs,rfl,hx,t,h⟩;obtain⟨va,vc,hv⟩:=hx.form;subst hv;have Hx:=a6 hx;have Hp:=a6 t;have x:=a6 (n.o.trans (h.mono n.o.size));have Hs:=a6 n.o.size
 clear hx t h HS c0 cl u0 ul;go_wp2_with fail;go_ret;exact⟨_,xs,rfl,Hx.o.from Hs.o Hs.o,Hp.o,x.o⟩
theorem o_S (kd pos:Int) (p d:List Int) (n0 n1 n2 n3:Value) (pa ta:Option Addr) (pc tc:Nat) (v4 v5 v6 v7 v8 v9 v10 v11 v12 v13 v14 v15 v16 v17 v18 v19 v20:Value) (W:World) (t:kd=5) (hp:RowA W W 1 pa p.length pc (p.map (Value.int .i64))) (u:p.length <= 400000) (k:p≠ []) (hd:RowA W W 1 ta d.length tc (d.map (Value.int .i64))) (x:d.length <= 400000) (l:d≠ []):
 Calls Tryz.prog 68 #[.agg #[n0,n1,n2,n3], .agg #[kd,(pa,p.length,pc),(ta,d.length,tc),pos,v4,v5,v6,v7,v8,v9,v10,v11,v12,v13,v14,v15,v16,v17,v18,v19,v20]] W (C8 W (d.dropLast::(pJ 5 p d pos p.dropLast).toList)):=by
 subst t;obtain⟨w0,c⟩:∃w0,w0=(W.alloc (Obj.cells #[n0,n1,n2,n3] 35)).alloc (Obj.cells #[.int .i64 5,(pa,p.length,pc),(ta,d.length,tc),pos,v4,v5,v6,v7,v8,v9,v10,v11,v12,v13,v14,v15,v16,v17,v18,v19,v20] 55):=⟨_,rfl⟩;have h:Below W W w0:=by rw [c];exact g8 _ _ _
 have n:At w0 (W+1) [.int .i64 5,(pa,p.length,pc),(ta,d.length,tc),pos,v4,v5,v6,v7,v8,v9,v10,v11,v12,v13,v14,v15,v16,v17,v18,v19,v20] 55:=by rw [c];exact At.second W _ _ _
 obtain⟨w1,f⟩:∃w1,w1=w0.alloc (Obj.cells #[.func (.func 128) #[] #[.pointer (some (P0 (W+1) 0))]] 176):=⟨_,rfl⟩;have i:Below w0 w0 w1:=t_K
 have b:Below W W w1:=h.trans (i.mono h.size);have hA:At w1 (W+1) [.int .i64 5,(pa,p.length,pc),(ta,d.length,tc),pos,v4,v5,v6,v7,v8,v9,v10,v11,v12,v13,v14,v15,v16,v17,v18,v19,v20] 55:=n.kept i;have hU:At w1 w0 [.func (.func 128) #[] #[.pointer (some (P0 (W+1) 0))]] 176:=by rw [f];exact At.fresh w0 _ _
 have o:=hp.keep b b.size;have HS:=a6 (g_Y _ _ _ _ 176 w1 rfl rfl (o_C hA rfl (hd.keep b b.size) P2 l) (⟨_,_,rfl,P5,fun w' hb=>s_1 p d 5 pos (W+1) w0 pa ta pc tc v4 v5 v6 v7 v8 v9 v10 v11 v12 v13 v14 v15 v16 v17 v18 v19 v20 _ w' (.inr (.inr (.inr rfl))) (hA.kept hb) (hU.kept hb) (o.keep hb hb.size) ((hd.keep b b.size).keep hb hb.size) u x k⟩:N1 w1 (pJ 5 p d pos p.dropLast) (.func (.func 139) #[] #[.pointer w0, .pointer (some (P0 (W+1) 0))])));rw [show (some d.dropLast).toList ++ (pJ 5 p d pos p.dropLast).toList=d.dropLast::(pJ 5 p d pos p.dropLast).toList from rfl]at HS;clear hd l;generalize d.dropLast::(pJ 5 p d pos p.dropLast).toList=R at HS⊢;have c0:=hA.cell 0 rfl;have cl:=hA.lt
 have u0:=hU.cell 0 rfl;have ul:=hU.lt
 have q:=a6 c;have r:=a6 f;have j:=a6 b
 have z:∀ (fn:Fn) (first cap:Array Value) (w:World),(Instr.makeFunc fn first cap).run Tryz.prog w= .ok (.func fn first cap) w:=fun _ _ _ _=>rfl
 have A:=fun(W:World) (a:Addr) (fn:Fn) (first cap:Array Value) (m:Mode)=>run_store Tryz.prog W a (.func fn first cap) m rfl
 clear c f h i b n hA hU hp o k;go_enter Tryz.func68,Tryz.ntmps68;go_upto_region 1 with fail;rw [<- q.o];clear q;go_upto_region 5 with fail
 rw [<- r.o];clear r;go_wp2_with fail;refine HS.o.mono ?_;rintro e w2 ⟨v,xs,rfl,hx,s,g⟩;obtain⟨va,vc,hv⟩:=hx.form;subst hv;have Hx:=a6 hx;have Hp:=a6 s;have y:=a6 (j.o.trans (g.mono j.o.size));have Hs:=a6 j.o.size
 clear hx s g HS c0 cl u0 ul;go_wp2_with fail;go_ret;exact⟨_,xs,rfl,Hx.o.from Hs.o Hs.o,Hp.o,y.o⟩
theorem s_A (p x:List Int) (N:Nat) (pa xa:Option Addr) (pc xc:Nat) (cs:List Value) (W:World) (hN:At W N cs 55) (hc:cs[1]? =some (.slice pa p.length pc)) (hp:RowA W W 1 pa p.length pc (p.map (Value.int .i64))) (hx:RowA W W 1 xa x.length xc (x.map (Value.int .i64))):
 Calls Tryz.prog 135 #[(xa,x.length,xc), .pointer N] W fun e w'=>e= .returned (!kJ p x)/\Below W W w':=by
 have HC:=a6 (g_E p x pa xa pc xc W W hp hx);have c1:=hN.cell 1 hc;have cl:=hN.lt
 clear hN hp hx;generalize kJ p x=z at HC⊢
 go_enter Tryz.func135,Tryz.ntmps135
 go_wp2_with fail;refine HC.o.mono ?_;rintro e w1 ⟨rfl,hdr⟩;have Hb:=a6 (hdr.below (w':=w1) W)
 clear hdr HC c1 cl;go_wp2_with fail;go_ret;exact⟨bJ P6,Hb.o⟩
theorem o_T (kd pos:Int) (p d:List Int) (n0 n1 n2 n3:Value) (pa ta:Option Addr) (pc tc:Nat) (v4 v5 v6 v7 v8 v9 v10 v11 v12 v13 v14 v15 v16 v17 v18 v19 v20:Value) (W:World) (Y:kd=1) (hp:RowA W W 1 pa p.length pc (p.map (Value.int .i64))) (h2:p.length <= 400000) (hne:p≠ []) (n:aX) (Z:n.wt <= 1000000) (hn:bY W W n (.agg #[n0,n1,n2,n3])):
 Calls Tryz.prog 68 #[.agg #[n0,n1,n2,n3], .agg #[kd,(pa,p.length,pc),(ta,d.length,tc),pos,v4,v5,v6,v7,v8,v9,v10,v11,v12,v13,v14,v15,v16,v17,v18,v19,v20]] W (C8 W ((xQ n).filter (kJ p) ++ [p.dropLast,p])):=by
 subst Y;obtain⟨w0,g⟩:∃w0,w0=(W.alloc (Obj.cells #[n0,n1,n2,n3] 35)).alloc (Obj.cells #[.int .i64 1,(pa,p.length,pc),(ta,d.length,tc),pos,v4,v5,v6,v7,v8,v9,v10,v11,v12,v13,v14,v15,v16,v17,v18,v19,v20] 55):=⟨_,rfl⟩;have r:Below W W w0:=t_A
 have D:At w0 (W+1) [.int .i64 1,(pa,p.length,pc),(ta,d.length,tc),pos,v4,v5,v6,v7,v8,v9,v10,v11,v12,v13,v14,v15,v16,v17,v18,v19,v20] 55:=by rw [g];exact At.second W _ _ _
 obtain⟨w1,j⟩:∃w1,w1=w0.alloc (Obj.cells #[.func (.func 128) #[] #[.pointer (some (P0 (W+1) 0))]] 176):=⟨_,rfl⟩;have l:Below w0 w0 w1:=by rw [j];exact b7 _ _
 have f:Below W W w1:=r.trans (l.mono r.size);have hA:At w1 (W+1) [.int .i64 1,(pa,p.length,pc),(ta,d.length,tc),pos,v4,v5,v6,v7,v8,v9,v10,v11,v12,v13,v14,v15,v16,v17,v18,v19,v20] 55:=D.kept l;have hU:At w1 w0 [.func (.func 128) #[] #[.pointer (some (P0 (W+1) 0))]] 176:=by rw [j];exact At.fresh w0 _ _
 have o:=hp.keep f f.size;have E:At w1 W [n0,n1,n2,n3] 35:=by
  have h:At w0 W [n0,n1,n2,n3] 35:=u_5
  exact h.kept l
 have HP:=a6 (j_V n _ w1 P2 (hn.keep f f.size));have HF:=a6 (fun(w2:World) (hb:Below w1 w1 w2) (M L:Nat) (v:Value) (xs:List PX) (hM:w1.heap.size <= M) (hx:lV w2 M L v xs) (F:xs.length <= 100000000)=>j_m 135 #[.pointer (some (P0 (W+1) 0))] (fun x=> !kJ p x.1) M L v xs w2 P5 hx F fun x H0 W' hg=>by
  obtain⟨x0,xa,xc⟩:=x;have s:Below w1 w1 W':=hb.trans (hg.old hb.size fun k hk=>aJ hM (hx.ge k hk));exact s_A p x0 (W+1) pa xa pc xc _ W' (hA.kept s) rfl (o.keep s s.size) (N5.own (hx.all _ H0) hg).row)
 have HS:=a6 (fun(w3:World) (hb:Below w1 w1 w3)=>g_Y _ _ _ _ 176 w3 rfl rfl ((e_z hA rfl o P2 hne).keep hb) ((g_X hA rfl o P2).keep hb));have q:=uK (fun _=>true) n [];have G:=a6 (show (xQ n).length <= 1000000 from aJ q Z);have HU:=a6 hU;obtain⟨⟨y0,y1,y2,y3⟩, -,yl⟩:=E.f4;clear E hn q;generalize xQ n=A at HP G⊢;have c0:=hA.cell 0 rfl;have cl:=hA.lt
 have u0:=hU.cell 0 rfl;have ul:=hU.lt
 have H:=a6 g;have I:=a6 j;have t:=a6 f
 have h3:∀ (fn:Fn) (first cap:Array Value) (w:World),(Instr.makeFunc fn first cap).run Tryz.prog w= .ok (.func fn first cap) w:=fun _ _ _ _=>rfl
 have h4:=fun(W:World) (a:Addr) (fn:Fn) (first cap:Array Value) (m:Mode)=>run_store Tryz.prog W a (.func fn first cap) m rfl
 clear g j r l f D hA hU hp o hne;go_enter Tryz.func68,Tryz.ntmps68;go_upto_region 1 with fail;rw [<- H.o];clear H;go_upto_region 5 with fail
 rw [<- I.o];clear I;go_wp2_with fail;refine HP.o.mono ?_;rintro e w2 ⟨v,xs,rfl,hx,u,c⟩;have F:xs.length <= 1000000:=by have h:=G.o;rw [<- u]at h;simpa using h
 have J:=a6 (HF.o w2 c w1 w1 v xs (a8) hx P2);obtain⟨va,vc,hv⟩:=hx.form;subst hv;have K:=a6 c;have Hp:=a6 u
 have H1:=a6 hx.ge;clear hx u c HP HF y0 y1 y2 y3 yl c0 cl u0 ul;go_wp2_with fail;refine J.o.mono ?_;rintro e w3 ⟨v',rfl,hz,hk,hg⟩;have i:=a6 (K.o.trans (hg.old K.o.size H1.o))
 have Hz:=a6 hz;obtain⟨za,zc,H2⟩:=hz.form;subst H2;have u1:=(HU.o.kept i.o).cell 0 rfl;have ul1:=(HU.o.kept i.o).lt
 have N:=a6 (HS.o w3 i.o);have O:=a6 (show (xs.filter fun x=> !!kJ p x.1).length <= xs.length from List.length_filter_le _ _);have P:=a6 (show iV (xs.filter fun x=> !!kJ p x.1)=A.filter (kJ p)by rw [e_4,Hp.o]);generalize (xs.filter fun x=> !!kJ p x.1)=zs at Hz O P;clear hz hk hg J HS;go_wp2_with fail;refine N.o.mono ?_;rintro e w4 ⟨v4,ys,rfl,hy,z,c⟩;have Q:ys.length=2:=by have h:=congrArg List.length z;simpa using h
 obtain⟨ya,yc,H3⟩:=hy.form;subst H3;obtain⟨ad,rfl⟩:∃ad,ya=some ad:=by
  rcases hy.open with⟨-,h0⟩ | ⟨b,cap,tl,h, -⟩
  . subst h0;simp at Q
  injection h with h1 _ _;exact⟨_,h1⟩
 have R:=a6 (b6 i.o c);have S:=a6 (Hz.o.below c);have B:=a6 i.o.size;have Hy:=a6 (hy.from (M':=w1.heap.size) (L':=w1.heap.size) B.o B.o);have T:=a6 (show ∀y∈ys,N5 w4 (fun b=>w1.heap.size <= b/\(Value.slice za zs.length zc).ownBlock≠some b) y from fun y H4=>qJ (hy.all y H4) fun b hb=>⟨aJ B.o hb.1,fun e=>by have:=(Hz.o.own.lt b e).2;omega⟩);have H5:=a6 z;have U:=a6 R.o.size;have H9:ys.length <= 2:=P2
 clear hy z c N u1 ul1 Q;go_wp2_with (at_builtin;refine i_l rfl _ _ rfl Tryz.underlying47 E9 w1 w1 (Value.slice za zs.length zc) zs rfl ?hO w1 ys ad yc rfl ?hr ?hne ?hn ?hM ?_)
 case hO=>exact S.o
 case hr=>exact Hy.o
 case hne=>exact T.o
 case hn=>have:=O.o;omega
 case hM=>exact U.o
 intro v' w5 C V;obtain⟨va5,vc5,H6⟩:=C.form;subst H6;have H7:=a6 C;have H8:=a6 (t.o.trans ((R.o.trans V).mono t.o.size));have X:=a6 t.o.size
 clear C V Hy T S;go_wp2_with fail;go_ret;exact⟨_,zs ++ ys,rfl,H7.o.from X.o X.o,by rw [mJ,P.o,H5.o];rfl,H8.o⟩
theorem q_L (n nd:aX) (kd pos:Int) (p d:List Int) (ol:List fQ) (v:Value) (pa ta:Option Addr) (pc tc:Nat) (v4 v5 v6 v7 v8 v9 v10 v11 v12 v13 v14 v15 v16 v17 v18 v19 v20:Value) (W:World) (hk:IJ kd) (c:n.wt <= 1000000) (hn:bY W W n v) (hp:RowA W W 1 pa p.length pc (p.map (Value.int .i64))) (a:p.length <= 400000) (b:p≠ []) (e:∀z∈p, -9223372036854775807 <= z/\z <= 9223372036854775807)
 (hd:RowA W W 1 ta d.length tc (d.map (Value.int .i64))) (f:d.length <= 400000) (g:kd=5 ->d≠ []):
 Calls Tryz.prog 68 #[v, .agg #[kd,(pa,p.length,pc),(ta,d.length,tc),pos,v4,v5,v6,v7,v8,v9,v10,v11,v12,v13,v14,v15,v16,v17,v18,v19,v20]] W (C8 W (uX n (fZ.full ⟨kd,p,d,pos,nd,ol⟩))):=by
 have h:=hn;obtain⟨lf,ps,t,ks⟩:=n;obtain⟨ap,cp,at_,ct,ak,ck,css,rfl, -, -, -, -⟩:=h.open;generalize aX.mk lf ps t ks=n at hn c⊢;rcases hk with rfl | rfl | rfl | rfl
 . rw [b_l rfl]
   exact o_T 1 pos p d _ _ _ _ pa ta pc tc v4 v5 v6 v7 v8 v9 v10 v11 v12 v13 v14 v15 v16 v17 v18 v19 v20 W rfl hp a b n c hn
 . rw [b_m rfl]
   exact o_Q 2 pos p d _ _ _ _ pa ta pc tc v4 v5 v6 v7 v8 v9 v10 v11 v12 v13 v14 v15 v16 v17 v18 v19 v20 W rfl hp a b
 . rw [M9 rfl]
   exact o_R 3 pos p d _ _ _ _ pa ta pc tc v4 v5 v6 v7 v8 v9 v10 v11 v12 v13 v14 v15 v16 v17 v18 v19 v20 W rfl hp a b e
 rw [IZ rfl];exact o_S 5 pos p d _ _ _ _ pa ta pc tc v4 v5 v6 v7 v8 v9 v10 v11 v12 v13 v14 v15 v16 v17 v18 v19 v20 W rfl hp a b hd f (g rfl)
theorem s_5 (n nd:aX) (kd pos:Int) (p d:List Int) (ol:List fQ) (v:Value) (pa ta:Option Addr) (pc tc:Nat) (v4 v5 v6 v7 v8 v9 v10 v11 v12 v13 v14 v15 v16 v17 v18 v19 v20:Value) (vx:Value) (xs:List PX) (W:World) (hk:IJ kd) (l:n.wt <= 1000000) (hv:bY W W n v) (hp:RowA W W 1 pa p.length pc (p.map (Value.int .i64))) (O:p.length <= 400000) (G:p≠ []) (Q:∀z∈p, -9223372036854775807 <= z/\z <= 9223372036854775807)
 (hd:RowA W W 1 ta d.length tc (d.map (Value.int .i64))) (S:d.length <= 400000) (T:kd=5 ->d≠ []) (hx:u_7 W W vx xs) (hn:xs.length <= 1000000) (U:∀x∈xs,x.1.length <= 400000):
 Calls Tryz.prog 15 #[v,vx, .agg #[kd,(pa,p.length,pc),(ta,d.length,tc),pos,v4,v5,v6,v7,v8,v9,v10,v11,v12,v13,v14,v15,v16,v17,v18,v19,v20]] W (C8 W (IY n (iV xs) (fZ.full ⟨kd,p,d,pos,nd,ol⟩))):=by
 have V:(uX n (fZ.full ⟨kd,p,d,pos,nd,ol⟩)).length <= 1000002:=by
  have h9:(xQ n).length <= n.wt:=uK (fun _=>true) n [];rcases hk with rfl | rfl | rfl | rfl
  . rw [b_l rfl,NZ]
    have:((xQ n).filter (kJ (fZ.full ⟨1,p,d,pos,nd,ol⟩).path)).length <= (xQ n).length:=List.length_filter_le _ _;generalize ((xQ n).filter (kJ (fZ.full ⟨1,p,d,pos,nd,ol⟩).path)).length=z at this⊢;simp only [O7,List.length_nil];omega
  . rw [b_m rfl];simp
  . rw [M9 rfl];split <;> simp
  rw [IZ rfl]
  cases nJ (fZ.full ⟨5,p,d,pos,nd,ol⟩).path.dropLast (fZ.full ⟨5,p,d,pos,nd,ol⟩) <;> simp
 have X:=hv;obtain⟨lf,ps,t,ks⟩:=n;obtain⟨ap,cp,at_,ct,ak,ck,css,rfl, -, -, -, -⟩:=X.open;generalize aX.mk lf ps t ks=n at hv l V⊢;have H:=fun(w1:World) (hb:Below W W w1)=>q_L n nd kd pos p d ol _ pa ta pc tc v4 v5 v6 v7 v8 v9 v10 v11 v12 v13 v14 v15 v16 v17 v18 v19 v20 w1 hk l (hv.keep hb hb.size) (hp.keep hb hb.size) O G Q (hd.keep hb hb.size) S T
 obtain⟨F,hF⟩:∃F:List Int ->Option (List Int),F=fun q=>pJ kd p d pos q:=⟨_,rfl⟩
 have A:=fun(w1:World) (hb:Below W W w1) (x:PX) (Y:x∈xs)=>(show Calls Tryz.prog 69 #[(x.2.1,x.1.length,x.2.2), .agg #[kd,(pa,p.length,pc),(ta,d.length,tc),pos,v4,v5,v6,v7,v8,v9,v10,v11,v12,v13,v14,v15,v16,v17,v18,v19,v20]] w1 (g_T w1 (F x.1))by rw [hF];exact l_7 x.1 p d kd pos x.2.1 pa ta x.2.2 pc tc v4 v5 v6 v7 v8 v9 v10 v11 v12 v13 v14 v15 v16 v17 v18 v19 v20 w1 hk ((hx.all x Y).keep hb hb.size) (hp.keep hb hb.size) (hd.keep hb hb.size) (U x Y) O S G)
 unfold IY;rw [show (fun x=>nJ x (fZ.full ⟨kd,p,d,pos,nd,ol⟩))=F from by rw [hF];rfl];generalize uX n (fZ.full ⟨kd,p,d,pos,nd,ol⟩)=ms at V H⊢;have HV:=a6 A;have HM:=a6 H
 clear hp hd Q T G U hF A H;obtain⟨w0,m⟩:∃w0,w0=(W.alloc (Obj.cells #[lf,(ap,ps.length,cp),(at_,t.length,ct),(ak,ks.length,ck)] 35)).alloc (Obj.cells #[kd,(pa,p.length,pc),(ta,d.length,tc),pos,v4,v5,v6,v7,v8,v9,v10,v11,v12,v13,v14,v15,v16,v17,v18,v19,v20] 55):=⟨_,rfl⟩;have I:Below W W w0:=t_z
 have hO:At w0 (W+1) [kd,(pa,p.length,pc),(ta,d.length,tc),pos,v4,v5,v6,v7,v8,v9,v10,v11,v12,v13,v14,v15,v16,v17,v18,v19,v20] 55:=s_P
 have hA:At w0 W [lf,(ap,ps.length,cp),(at_,t.length,ct),(ak,ks.length,ck)] 35:=XZ
 have B:=fun(w':World) (h:At w' (W+1) [kd,(pa,p.length,pc),(ta,d.length,tc),pos,v4,v5,v6,v7,v8,v9,v10,v11,v12,v13,v14,v15,v16,v17,v18,v19,v20] 55)=>ldx (P:=Tryz.prog) h Tryz.underlying55 rfl P3
 simp [go_sem]at B
 obtain⟨a,c,rfl, -⟩:=hx.row;have HE:=a6 (fun(w1:World) (hb:Below W W w1) (u:Value) (ys:List PX) (hy:lV w1 W W u ys) (hl:ys.length <= 100000000)=>b_8 n _ W W W u ys w1 P2 (hv.keep hb (a8)) hb.size (a8) hy hl);have HX:=a6 hx;have HO:=a6 hO;have HA:=a6 hA;have Z:=a6 I;have H0:=a6 m
 have H1:=a6 (HM.o w0 I);obtain⟨⟨x0,x1,x2,x3⟩, -,xl⟩:=hA.f4;have hS:=B w0 hO;have H2:=a6 B;clear hv X l I hO hA m hx HM B;go_enter Tryz.func15,Tryz.ntmps15;go_upto_region 1 with fail;rw [<- H0.o];clear H0;go_wp2_with fail;refine H1.o.mono ?_;rintro e w1 ⟨mv,mx,rfl,J,K,f⟩;have h0:=a6 f
 have C:=a6 Z.o.size;have h1:=a6 J;have h2:=a6 K
 have J0:mx.length <= 1000002:=by have h:=congrArg List.length K;simp at h;omega
 obtain⟨ma,mc,A⟩:=J.form;subst A;clear f H1 x0 x1 x2 x3 xl hS J K;go_wp2_with fail
 go_loopg [17,7] xs.length (fun g i o wr=>∃ (k:Nat) (ys:List PX),i= .int .i64 k/\k+g=xs.length/\ys.length <= mx.length+k/\Hid (iV ys=ms ++ (iV (xs.take k)).filterMap F)/\Hid (lV wr w0 w0 o ys)/\Hid (Below w0 w0 wr))
 case atStart=>exact⟨0,mx,rfl,by omega,by omega,(show iV mx=ms ++ (iV (xs.take 0)).filterMap F by rw [h2.o];simp),h1.o,h0.o⟩
 case round=>
  obtain⟨k,ys,rfl,hg,J2,D,hy,r⟩:=hrel;obtain⟨oa,oc,ho⟩:=hy.o.form;subst ho;have j:=a6 (Z.o.trans (r.o.mono C.o))
  by_cases L:k < xs.length
  . have J1:(k:Int) < xs.length:=P2
    obtain⟨b,off,rfl,hb,hc⟩:=(HX.o.keep j.o j.o.size).at_ k L;have s:=a6 (HV.o wr j.o xs[k] (NY L));have M:=a6 (show xs.take (k+1)=xs.take k ++ [xs[k]]from O1 L);have hS:=H2.o wr (HO.o.kept r.o);generalize xs[k]=x at hc s M;obtain⟨x0,xa,xc⟩:=x;unfold C5 at hc;simp only at hc s;obtain⟨R,hR⟩:∃R,R=F x0:=⟨_,rfl⟩;rw [<- hR]at s;have HR:=a6 hR
    clear hR;go_wp2_with fail;refine s.o.mono ?_;rintro e w2 ⟨f,N,w⟩;have y:=a6 (b6 r.o f)
    have H3:=a6 (hy.o.below f);have h3:=a6 r.o.size;clear s hc hS;cases R with
    | none=>
      obtain rfl:=N rfl;clear N w f;go_wp2_with fail
      go_roundg (xs.length - (k+1))
      case measure=>omega
      case rel=>
       refine⟨k+1,ys,by go_num,by omega,by omega, ?_,H3,y⟩
       show iV ys=ms ++ (iV (xs.take (k+1))).filterMap F
       rw [M.o,mJ,B8,List.filterMap_append,List.filterMap_cons_none HR.o.symm,List.filterMap_nil,List.append_nil];exact D.o
    | some zs=>
      obtain⟨mv,rfl,E⟩:=w zs rfl;obtain⟨va,vc,rfl,hq⟩:=nV E PJ;have Hq:=a6 (show N5 w2 (fun b=>w0.heap.size <= b/\(Value.slice oa ys.length oc).ownBlock≠some b) (zs,va,vc)from qJ hq fun b hb=>⟨aJ h3.o hb,fun e=>by have:=(hy.o.own.lt b e).2;omega⟩);have h4:=a6 y.o.size;clear N w f E hq;go_wp2_with (at_builtin;refine BV rfl _ _ rfl Tryz.underlying47 E9 w0 w0 (Value.slice oa ys.length oc) ys rfl ?hO (zs,va,vc) rfl rfl ?hq ?hn ?hM ?_)
      case hO=>exact H3.o
      case hq=>exact Hq.o
      case hn=>omega
      case hM=>exact h4.o
      intro v' w3 H4 H5;have h5:=a6 H4;have h6:=a6 (y.o.trans H5)
      clear H4 H5 Hq;go_wp2_with fail
      go_roundg (xs.length - (k+1))
      case measure=>omega
      case rel=>
       refine⟨k+1,ys ++ [(zs,va,vc)],by go_num,by omega,by simp;omega, ?_,h5,h6⟩
       show iV (ys ++ [(zs,va,vc)])=ms ++ (iV (xs.take (k+1))).filterMap F
       rw [M.o,mJ,mJ,B8,B8,List.filterMap_append,List.filterMap_cons_some HR.o.symm,List.filterMap_nil, <- List.append_assoc, <- D.o]
  obtain rfl:k=xs.length:=P2
  have H6:=a6 (show iV ys=ms ++ (iV xs).filterMap F by have:=D.o;rwa [List.take_length]at this);have H7:=a6 (HE.o wr j.o _ ys (hy.o.from C.o C.o) P2);obtain⟨⟨y0,y1,y2,y3⟩, -,yl⟩:=(HA.o.kept r.o).f4;have h7:=a6 (show ∀k,(Value.slice oa ys.length oc).ownBlock=some k ->W.heap.size <= k from fun k hk=>aJ C.o (hy.o.ge k hk));clear HE D H2;go_wp2_with fail;refine H7.o.mono ?_;rintro e w2 ⟨v',zs,rfl,hz,H8, -, -,H9⟩;obtain⟨va,vc,h8⟩:=hz.form;subst h8;have Hz:=a6 hz;have Hp:=a6 H8;have y:=a6 (j.o.trans (H9.old j.o.size h7.o))
  clear hz H8 H9 H7 y0 y1 y2 y3 yl;go_wp2_with fail;go_ret;exact⟨_,zs,rfl,Hz.o,by rw [Hp.o,H6.o],y.o⟩
end Go.Proofs.YtmadpclcmjahoaaGreatDoor
