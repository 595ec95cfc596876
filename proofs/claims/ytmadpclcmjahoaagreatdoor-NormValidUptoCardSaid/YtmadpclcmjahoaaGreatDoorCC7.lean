/- Parts of the proof: CC7. -/
import Derived.Test.YtmadpclcmjahoaaGreatDoorCC6
import Derived.Deep.RegionHeld3
set_option linter.unusedVariables false
set_option linter.unusedSimpArgs false
set_option maxHeartbeats 8000000
set_option maxRecDepth 100000
namespace Go.Proofs.YtmadpclcmjahoaaGreatDoor
open Go.RowKit Go.Redl
def h_B (eq:PX ->PX ->Bool) (xs:List PX) (k:Nat):Bool:=decide (k=0) || !eq (xs.getD k px0) (xs.getD (k - 1) px0)
def tZ (eq:PX ->PX ->Bool) (xs:List PX):Nat ->List PX
 | 0=> []
 | k+1=>tZ eq xs k ++ (if h_B eq xs k then [xs.getD k px0] else [])
theorem LJ {eq:PX ->PX ->Bool} {xs:List PX} {k:Nat} (hk:k < xs.length) (h:k=0∨eq xs[k] (xs[k - 1]' P2)=false):tZ eq xs (k+1)=tZ eq xs k ++ [xs[k]]:=by
 have hK:h_B eq xs k=true:=by
  unfold h_B;rcases h with h | h
  . simp [h]
  rw [L9 hk,L9 (show k - 1 < xs.length by omega),h];simp
 show tZ eq xs k ++ _=_
 rw [if_pos hK,L9 hk]
theorem b_7 {eq:PX ->PX ->Bool} {xs:List PX} {k:Nat} (hk:k < xs.length) (h0:0 < k) (h:eq xs[k] (xs[k - 1]' P2)=true):tZ eq xs (k+1)=tZ eq xs k:=by
 have hK:h_B eq xs k=false:=by
  unfold h_B;rw [L9 hk,L9 (show k - 1 < xs.length by omega),h];simp;omega
 show tZ eq xs k ++ _=_
 rw [hK];simp
theorem r_E (g:Nat) (eq:PX ->PX ->Bool) (M L:Nat) (v:Value) (xs:List PX) (W:World) (hg:∀args w,(callFunc g args).run Tryz.prog w= .ok (.enter g args) w) (hx:lV W M L v xs) (hn:xs.length <= 100000000)
 (hp:∀x∈xs,∀y∈xs,∀W',W.grownBy W' v.ownBlock ->Calls Tryz.prog g #[C5 x,C5 y] W' fun e w'=>e= .returned (eq x y)/\Below W' W' w'):
 Calls Tryz.prog 200 #[v, .func (.func g) #[] #[]] W (s_i W M L v (tZ eq xs xs.length)):=by
 by_cases h2:xs.length < 2
 . have hc:tZ eq xs xs.length=xs:=by
    match xs,h2 with
    | [],_=>rfl
    | [x],_=>rfl
   rw [hc];obtain⟨a,c,rfl⟩:=hx.form;have V:(xs.length:Int) < 2:=P2
   have Hx:=a6 hx;clear hx hp hg hc;go_enter Tryz.func200,Tryz.ntmps200;go_wp2_with fail;go_ret;exact⟨_,rfl,Hx.o,fun k hk=>hk,World.grownBy.refl _ _⟩
 rcases hx.open with⟨rfl,rfl⟩ | ⟨b,cap,tl,rfl,h7,hA,K,h8⟩
 . exact absurd P6 h2
 have X:∀x∈xs,N5 W (fun k=>L <= k/\k≠b) x:=fun x N=>qJ (hx.all x N) fun k hk=>⟨hk.1,fun e=>hk.2 t_h⟩
 have I:(Value.slice b xs.length cap).ownBlock=some b:=rfl;rw [I]at hp;have HA:=a6 hA;have h9:=a6 X;have HP:=a6 hp;have Hx:=a6 hx
 have V:¬ (xs.length:Int) < 2:=P2
 have j0:decide ((xs.length:Int) < 2)=false:=O3 V;have Y:=a6 (show tZ eq xs 1=xs.take 1 by
  have h:=LJ (eq:=eq) (xs:=xs) (k:=0) P2 (.inl rfl);rw [h];cases xs with
  | nil=>simp at h2
  | cons x xs=>rfl)
 clear hp hx hA X I;go_enter Tryz.func200,Tryz.ntmps200;go_wp2_with fail
 go_loopg [5,6,7] xs.length (fun gg s5 _ _ wr=>∃k:Nat,s5= .int .i64 k/\1 <= k/\k <= xs.length/\xs.length - k <= gg/\Hid (tZ eq xs k=xs.take k)/\Hid (Below W W wr))
 case atStart=>exact⟨1,rfl,by omega,by omega,by omega,Y,a7⟩
 case round=>
  obtain⟨k,rfl,h1,j1,j2,F,m⟩:=hrel
  by_cases G:k < xs.length
  . have J6 : (k:Int) < (xs.length:Int):=P2
    have J7:IntKind.i64.wrap ((k:Int) - 1)=((k - 1:Nat):Int):=WZ
    have j3:((k - 1:Nat):Int) < xs.length:=P2
    have J0:k - 1 < xs.length:=P2
    have H:=HA.o.kept m.o;have cj:=xZ H k P2;have ci:=xZ H (k - 1) P2;have Z:=a6 (At.lt H);have HC:=a6 (fun(w':World) (hb:Below wr wr w')=>HP.o xs[k] (NY G) xs[k - 1] (NY J0) w' ((cX m.o).then hb));have H0:=a6 (show xs.take (k+1)=xs.take k ++ [xs[k]]from O1 G);have d:=a6 (LJ (eq:=eq) G);have f:=a6 (b_7 (eq:=eq) G h1);generalize xs[k - 1]=y at ci HC d f;generalize xs[k]=x at cj HC d f H0;obtain⟨x0,xa,xc⟩:=x;obtain⟨y0,ya,yc⟩:=y;unfold C5 at ci cj HC;have J1:=a6 (fun(w':World) (hb:Below wr wr w')=>And.intro ((hb.cell (by exact Z.o)).trans cj) ((hb.cell (by exact Z.o)).trans ci))
    clear H ci cj;go_upto_region 6 with fail
    go_region_held3 (fun w'=>w'.cell? (b,k)=some (.slice xa x0.length xc)/\w'.cell? (b,k - 1)=some (.slice ya y0.length yc)) (refine J1.o _ (by(with_reducible (repeat (first | exact A.o | exact a7 | refine aK ?_ | refine aQ ?_ ?_ _ | refine aV ?_ ?_ _)) <;> (first | exact a8 | exact A.o.size | (have:=A.o.size;simp [World.setCell];omega) | (simp <;> omega) | omega))))
     (first
     | (refine b_6 rfl g _ #[] _ _ rfl ?_ hg [(xa,x0.length,xc),(ya,y0.length,yc)] ?_ _ (HC.o _ P1) ?_
        . go_simp
        . go_simp
        rintro e w1 ⟨rfl,o⟩;refine⟨_,rfl, ?_⟩;have A:=a6 (b6 (w0:=wr) P1 o);clear o))
    all_goals
     cases hq:eq (x0,xa,xc) (y0,ya,yc)with
     | false=>
       have HQ:=a6 (d.o (.inr hq));clear hq HC;go_wp2_with fail
       go_roundg (xs.length - (k+1))
       case measure=>omega
       case rel=>exact⟨k+1,by go_num,by omega,by omega,a8,(show tZ eq xs (k+1)=xs.take (k+1)by rw [HQ.o,F.o,H0.o]),(show Below _ _ _ from m.o.trans (A.o.mono m.o.size))⟩
     | true=>
       have HQ:=a6 (f.o hq);have O:=m.o.trans (A.o.mono m.o.size);have J2:=a6 (HA.o.kept O);have J3:=a6 (cX (r:=some b) O);clear hq HC O d f;have j4:(k:Int) <= xs.length:=P2
       go_wp2_with fail
       go_loopg [5,7] xs.length (fun gg s5 s7 w2=>∃ (i j:Nat) (zs:List PX),s5= .int .i64 i/\s7= .int .i64 j/\zs.length=xs.length/\i < k+j/\1 <= j/\k+j <= xs.length/\xs.length - (k+j) <= gg/\Hid (zs.take i=tZ eq xs (k+j))/\Hid (zs.drop (k+j - 1)=xs.drop (k+j - 1))/\Hid (∀z∈zs,z∈xs)/\Hid (At w2 b (zs.map C5 ++ tl) 36)/\Hid (W.grownBy w2 (some b)))
       case atStart=>exact⟨k,1,xs,rfl,rfl,rfl,by omega,by omega,by omega,by omega,(show xs.take k=tZ eq xs (k+1)by rw [HQ.o,F.o]),rfl,fun z hz=>hz,J2,J3⟩
       case round=>
        obtain⟨i,j,zs,rfl,rfl,H1,j5,j6,j7,J8,t,B,C,l,u⟩:=hrel
        by_cases q:k+j < xs.length
        . have J9:(j:Int) < ((xs.length - k:Nat):Int):=P2
          have J4:IntKind.i64.wrap ((j:Int) - 1)=((j - 1:Nat):Int):=XJ
          have j8:((j - 1:Nat):Int) < ((xs.length - k:Nat):Int):=P2
          have H2:(i:Int) < (xs.length:Int):=P2
          have H3:k+(j - 1) < xs.length:=P2
          have H4:zs[k+(j - 1)]=xs[k+(j - 1)]:=by
           have h:=B.o;rw [show k+j - 1=k+(j - 1)by omega,NX (show k+(j - 1) < zs.length by omega),NX H3]at h;exact(List.cons.inj h).1
          have Q:zs.drop (k+j)=xs.drop (k+j):=by
           have h:=congrArg (List.drop 1) B.o;rw [List.drop_drop,List.drop_drop,show k+j - 1+1=k+j by omega]at h;exact h
          have H5:zs[k+j]=xs[k+j]:=by
           have h:=Q;rw [NX (show k+j < zs.length by omega),NX q]at h;exact(List.cons.inj h).1
          have cj:=xZ l.o (k+j) P2;have ci:=xZ l.o (k+(j - 1)) P2;rw [H5]at cj;rw [H4]at ci;have D:=a6 (At.lt l.o);have H6:=a6 Q;have HC:=a6 (fun(w':World) (hb:Below wr wr w')=>HP.o xs[k+j] (NY q) xs[k+(j - 1)] (NY H3) w' (u.o.then hb));have H7:0 < k+j:=P2
          have d:=a6 (show eq xs[k+j] xs[k+(j - 1)]=false ->tZ eq xs (k+j+1)=tZ eq xs (k+j) ++ [xs[k+j]]from fun h=>LJ q (.inr t_d));have f:=a6 (show eq xs[k+j] xs[k+(j - 1)]=true ->tZ eq xs (k+j+1)=tZ eq xs (k+j)from fun h=>b_7 q H7 t_d);have J:=a6 (show xs[k+j]∈xs from NY q);clear H4 H5 Q;generalize xs[k+(j - 1)]=y at ci HC d f;generalize xs[k+j]=x at cj HC d f J;obtain⟨x1,xb,xd⟩:=x;obtain⟨y1,yb,yd⟩:=y;unfold C5 at ci cj HC;have H8:=a6 (fun(w':World) (hb:Below wr wr w')=>And.intro ((hb.cell (by exact D.o)).trans cj) ((hb.cell (by exact D.o)).trans ci))
          clear ci cj;go_upto_region 11 with fail
          go_region_held3 (fun w'=>w'.cell? (b,k+j)=some (.slice xb x1.length xd)/\w'.cell? (b,k+(j - 1))=some (.slice yb y1.length yd)) (refine H8.o _ (by(with_reducible (repeat (first | exact s.o | exact a7 | refine aK ?_ | refine aQ ?_ ?_ _ | refine aV ?_ ?_ _)) <;> (first | exact a8 | exact s.o.size | (have:=s.o.size;simp [World.setCell];omega) | (simp <;> omega) | omega))))
           (first
           | (refine b_6 rfl g _ #[] _ _ rfl ?_ hg [(xb,x1.length,xd),(yb,y1.length,yd)] ?_ _ (HC.o _ P1) ?_
              . go_simp
              . go_simp
              rintro e w3 ⟨rfl,o⟩;refine⟨_,rfl, ?_⟩;have s:=a6 (b6 (w0:=wr) P1 o);clear o))
          all_goals
           cases hq:eq (x1,xb,xd) (y1,yb,yd)with
           | false=>
             have R:=a6 (d.o hq);have E:=a6 (l.o.kept s.o);have S:=a6 (u.o.then s.o)
             have ci:=xZ E.o i P2;have cf:w3.frozen? (b,i)=false:=Lib.frozen_of_heap E.o _;have cj:=(s.o.cell (p:=(b,k+j)) (by exact D.o)).trans (H8.o wr (a7)).1;have T:i < zs.length:=P2
             generalize zs[i]=old at ci;clear hq HC d f;go_wp2_with fail
             go_roundg (xs.length - (k+(j+1)))
             case measure=>omega
             case rel=>
              refine⟨i+1,j+1,zs.set i (x1,xb,xd),by go_num,by go_num,by rw [List.length_set];exact H1,by omega,by omega,by omega,a8, ?_, ?_, ?_, ?_,S.o.set i _⟩
              . show (zs.set i (x1,xb,xd)).take (i+1)=tZ eq xs (k+(j+1))
                rw [<- Nat.add_assoc,R.o, <- t.o,List.take_set,O1 T,List.set_append_right _ _ P8]
                simp [O8 (Nat.le_of_lt T)]
              . show (zs.set i (x1,xb,xd)).drop (k+(j+1) - 1)=xs.drop (k+(j+1) - 1)
                rw [show k+(j+1) - 1=k+j by omega,List.drop_set_of_lt P2,H6.o]
              . intro z hz
                rcases List.mem_or_eq_of_mem_set hz with h | h
                . exact C.o z h
                rw [h];exact J.o
              show At _ b ((zs.set i (x1,xb,xd)).map C5 ++ tl) 36
              have h:=E.o.set i (C5 (x1,xb,xd));rw [List.set_append_left _ _ (by simpa using T), <- List.map_set]at h;exact h
           | true=>
             have R:=a6 (f.o hq);have E:=a6 (l.o.kept s.o);have S:=a6 (u.o.then s.o)
             clear hq HC d f;go_wp2_with fail
             go_roundg (xs.length - (k+(j+1)))
             case measure=>omega
             case rel=>
              refine⟨i,j+1,zs,rfl,by go_num,H1,by omega,by omega,by omega,a8, ?_, ?_,C,E,S⟩
              . show zs.take i=tZ eq xs (k+(j+1))
                rw [<- Nat.add_assoc,R.o,t.o]
              show zs.drop (k+(j+1) - 1)=xs.drop (k+(j+1) - 1)
              rw [show k+(j+1) - 1=k+j by omega,H6.o]
        have H9:k+j=xs.length:=P2
        have h0:¬ (j:Int) < ((xs.length - k:Nat):Int):=P2
        have H2:(i:Int) <= (xs.length:Int):=P2
        have K:=fun ty=>Lib.run_clear_slice (P:=Tryz.prog) wr 47 36 ty () Tryz.underlying47 (fun w=>by kernel_rfl) rfl rfl b (0+i) (xs.length - i) (cap - i) P2 (fun k hk=>by
         have:=xZ l.o (i+k) P2;rw [O5,this];rfl) (fun k hk=>Lib.frozen_of_heap l.o _)
        rw [O5]at K;have h3:=a6 (lV.cut (i:=i) (n:=xs.length) h7 l.o P2 h8 P2 (fun x N=>(h9.o x (C.o x N)).grown u.o))
        have J5:=a6 (fun vs=>World.grownBy.setCells vs i wr u.o);have h4:=a6 (show zs.take i=tZ eq xs xs.length by rw [t.o,H9]);have h5:Hid ((zs.take i).length=i):=by show _=_;simp;omega
        obtain⟨vs,h6⟩:∃vs,vs=List.replicate (xs.length - i) (Value.slice none 0 0):=⟨_,rfl⟩;rw [<- h6]at K;clear l u h6 H9;go_wp2_with fail;go_ret;rw [<- h4.o];refine⟨.slice b (zs.take i).length cap,by rw [h5.o];rfl,h3.o vs,fun k hk=>hk,J5.o vs⟩
  obtain rfl:k=xs.length:=P2
  have h0:¬ (xs.length:Int) < (xs.length:Int):=P2
  have U:=a6 (show tZ eq xs xs.length=xs by have:=F.o;rwa [List.take_length]at this);clear F;go_wp2_with fail;go_ret;rw [U.o];exact⟨_,rfl,Hx.o.below m.o,fun k hk=>hk,cX m.o⟩
open Go.Sort Go.Shelf
section
variable {α : Type} [Inhabited α]
theorem b_F (enc: α ->Value) (w:World) (blk off m:Nat) (dk:Array α) (os:Array Obj):w.grownBy (sortWorld enc w blk off m dk os) (some blk):=by
 refine⟨rfl,rfl,rfl, ?_,fun k hk b=> ?_⟩
 . simp [sortWorld,grow,putRow,mapBlock,Sort.ahead]
 have a:¬blk=k:=fun e=>b (by rw [e])
 show ((w.heap.modify blk _) ++ os)[k]? =w.heap[k]?
 rw [Array.getElem?_append_left UQ,Array.getElem?_modify,if_neg a]
theorem g_F (enc: α ->Value) (w:World) (b m:Nat) (dk:Array α) (os:Array Obj) (l:List Value) (tl:List Value) (T:TypeId) (h:At w b (l ++ tl) T) (hl:dk.size=l.length):
 At (sortWorld enc w b 0 m dk os) b (dk.toList.map enc ++ tl) T:=by
 have hb:=h.lt;unfold At at h⊢;show ((w.heap.modify b _) ++ os)[b]? =_;rw [Array.getElem?_append_left (by simpa using hb),Array.getElem?_modify,if_pos rfl,h];simp only [Option.map_some,onCells];congr 2
 apply Array.ext_getElem?
 intro k;unfold putCells;rw [Array.getElem?_mapIdx];simp only [List.getElem?_toArray,Nat.zero_le,true_and,O5,Nat.sub_zero];by_cases hk:k < dk.size
 . rw [List.getElem?_append_left P2,List.getElem?_append_left UQ,List.getElem?_map,NV (show k < l.length by omega)]
   simp [hk]
 rw [OX P2,OX UQ];have a:¬k < l.length:=P2
 simp [a,hl]
end
abbrev k_W (l:List (List Int)):Prop:=l.Pairwise fun p q=>¬nY q p < 0
def s_j (W:World) (M L:Nat) (v:Value) (xs:List PX) (e:Ending) (w':World):Prop:=
 e= .returned (.tuple #[])/\∃ys:List PX,ys.Perm xs/\k_W (iV ys)/\lV w' M L v ys/\W.grownBy w' v.ownBlock
theorem n_H {α :Type} (f: α ->List Int):SWO (ltOf fun x y: α =>nY (f x) (f y)) where
 irrefl x:=by simp [ltOf,K2]
 trans x y z h1 h2:=by
  unfold ltOf at *;simp only [decide_eq_true_eq]at *;exact G7 h1 h2
 ntrans x y z h1 h2:=by
  unfold ltOf at *;simp only [decide_eq_false_iff_not]at *;intro h3;rcases G8 (f y) (f x)with h | h | h
  . rcases G8 (f z) (f y)with h' | h' | h'
    . have:=G7 h3 h'
      exact h1 this
    . rw [h']at h3;exact h1 h3
    exact h2 h'
  . rw [h]at h2;exact h2 h3
  exact h1 h
theorem l_N (fv:Value) (W:World):Calls Tryz.prog 265 #[(),OY,OY,fv] W fun e w'=>e= .returned (.tuple #[])/\w'=W:=by
 go_enter Tryz.func265,Tryz.ntmps265
 go_wp2_with fail
 go_loopg [8,9] 1 (fun g i _ wr=>i= .int .i64 1/\wr=W)
 case atStart=>exact⟨rfl,rfl⟩
 case round=>
  obtain⟨rfl,rfl⟩:=hrel;go_wp2_with fail
  go_end0
  exact⟨rfl,rfl⟩
theorem r_F (lim:Int) (fv:Value) (W:World):Calls Tryz.prog 246 #[(),OY,OY,lim,fv] W fun e w'=>e= .returned (.tuple #[])/\w'=W:=by
 have HI:=a6 (l_N fv W)
 go_enter Tryz.func246,Tryz.ntmps246
 go_wp2_with fail
 go_loopg [1,2,3,10,11,12] 1 (fun g a b l _ _ _ wr=>a= .int .i64 0/\b= .int .i64 0/\l= .int .i64 lim/\wr=W)
 case atStart=>exact⟨rfl,rfl,rfl,rfl⟩
 case round=>
  obtain⟨rfl,rfl,rfl,rfl⟩:=hrel;go_wp2_with fail;refine HI.o.mono ?_;rintro e w1 ⟨rfl,rfl⟩;go_wp2_with fail;exact bodyPost_ret (v:= .tuple #[]) (by simp [results,Tryz.results246]) rfl ⟨rfl,rfl⟩
theorem p_Z (fv:Value) (W:World):Calls Tryz.prog 198 #[(),fv] W fun e w'=>e= .returned (.tuple #[])/\w'=W:=by
 have hl:Calls Tryz.prog 163 #[.int .u64 0] W fun e w'=>e= .returned (Lib.bitLen 0:Nat)/\w'=W:=
  Any.bits_Len (SlLaysF0.n15.bits (P:=Tryz.prog) (ρ :=Tryz.sortL_ren) { Tryz.sortL with }) 0 W P2 P2
 have HL:=a6 hl;have HP:=a6 (fun lim=>r_F lim fv W);clear hl;go_enter Tryz.func198,Tryz.ntmps198;go_wp2_with fail;refine HL.o.mono ?_;rintro e w1 ⟨rfl,rfl⟩;go_wp2_with fail;refine(HP.o _).mono ?_;rintro e w1 ⟨rfl,rfl⟩;go_wp2_with fail
 go_end0
 exact⟨rfl,rfl⟩
theorem q_0 (M L:Nat) (v:Value) (xs:List PX) (W:World) (hx:lV W M L v xs) (hn:xs.length <= 100000000):
 Calls Tryz.prog 198 #[v, .func (.func 199) #[] #[]] W (s_j W M L v xs):=by
 rcases hx.open with⟨rfl,rfl⟩ | ⟨b,cap,tl,rfl,t,hA,C,u⟩
 . exact(p_Z _ W).mono fun e w' hh=>⟨hh.1, [],List.Perm.refl _,List.Pairwise.nil,by rw [hh.2];exact lV.nil _ _ _,by rw [hh.2];exact World.grownBy.refl _ _⟩
 have a:∀x∈xs,N5 W (fun k=>L <= k/\k≠b) x:=fun x c=>qJ (hx.all x c) fun k hk=>⟨hk.1,fun e=>hk.2 t_h⟩
 let α :={x:PX // N5 W (fun k=>L <= k/\k≠b) x}
 have instI:Inhabited α :=⟨⟨([],none,0),RowQ.empty _ _ _⟩⟩
 let enc: α ->Value:=fun x=>C5 x.1
 let d:Array α :=(xs.attachWith _ a).toArray
 have g:d.toList.map (·.1)=xs:=List.attachWith_map_subtype_val a;have l:d.size=xs.length:=List.length_attachWith (H:=a);have D:d.toList.map enc=xs.map C5:=by
  rw [<- g,List.map_map];congr 1
 have hH:Holds enc W b 0 d:=by
  intro j hj;have w:j < xs.length:=P2
  refine⟨?_,Lib.frozen_of_heap hA _⟩;rw [O5,xZ hA j w,getElem!_pos d j hj];have h1:(d.toList.map (·.1))[j]' VZ=xs[j]:=by simp only [g]
  rw [List.getElem_map]at h1;show some (C5 xs[j])=some (C5 (d[j]).1);rw [<- h1];simp
 have q:CmpLays1 Tryz.prog 199 #[] enc (fun x y=>nY x.1.1 y.1.1) b 0 d.size W:=by
  intro m os dk hs x y;have hg:=b_F enc W b 0 m dk os
  have z:=N5.grown x.2 hg;have A:=N5.grown y.2 hg;obtain⟨⟨x0,xa,xc⟩,E⟩:=x;obtain⟨⟨y0,ya,yc⟩,F⟩:=y;have h:=n_E x0 y0 xa ya xc yc _ (sortWorld enc W b 0 m dk os) z.row A.row;refine h.mono fun e w' hh=>⟨hh.1,0, #[], ?_⟩
  rw [hh.2,grow_empty];rfl
 have hS:=Any.slices_SortFunc Tryz.sortL enc (fun _=>rfl) (fun x y=>nY x.1.1 y.1.1) (n_H fun x: α =>x.1.1) 199 #[] b 0 cap d W P5 q hH hA.lt P2;rw [l]at hS;refine Calls.mono (f:=198) hS fun e w' hh=> ?_
 obtain⟨rfl,d',n,os,⟨r, -,s⟩,hs,rfl⟩:=hh;have o:d'.toList.Perm d.toList:=by
  have e1:(d'.extract 0 xs.length).toList=d'.toList:=by
   rw [Array.extract_eq_self_of_le P2]
  have e2:(d.extract 0 xs.length).toList=d.toList:=by
   rw [Array.extract_eq_self_of_le P2]
  rw [e1,e2]at s;exact s
 have hg:=b_F enc W b 0 n d' os;have p:(d'.toList.map (·.1)).Perm xs:=by have:=o.map (fun x: α =>x.1);rwa [g]at this
 have hlen:(d'.toList.map (·.1)).length=xs.length:=p.length_eq;refine⟨rfl,d'.toList.map (·.1),p, ?_, ?_,hg⟩
 . show k_W ((d'.toList.map (·.1)).map (·.1))
   rw [List.map_map,k_W,List.pairwise_map,List.pairwise_iff_getElem];intro i j hi hj B;have h:=hs i j (Nat.zero_le _) B (by simpa [r,l]using hj)
   unfold ltOf at h;simp only [decide_eq_false_iff_not]at h;rw [getElem!_pos d' i R4,getElem!_pos d' j VZ]at h
   simpa using h
 rw [<- hlen];have h:=g_F enc W b n d' os (xs.map C5) tl 36 hA (by simp [r,l]);have h2:At (sortWorld enc W b 0 n d' os) b ((d'.toList.map (·.1)).map C5 ++ tl) 36:=by rw [List.map_map];exact h
 exact lV.shut t h2 P2 u fun x c=>(a x (p.subset c)).grown hg
abbrev pK (l:List (List Int)):Prop:=l.Pairwise fun p q=>nY p q < 0
def c_v (p:List Int):List (List Int) ->List (List Int)
 | []=> [p]
 | q::l=>if nY p q < 0 then p::q::l else if p=q then q::l else q::c_v p l
def oY (l:List (List Int)):List (List Int):=l.foldr c_v []
theorem e_3 {p x:List Int}:∀ {l:List (List Int)},x∈c_v p l ↔ x=p∨x∈l
 | []=>by simp [c_v]
 | q ::l=>by
   unfold c_v;split
   . simp
   split
   . rename_i h;subst h;simp
   rw [List.mem_cons,e_3,List.mem_cons]
   constructor
   . rintro (h | h | h)
     . exact .inr (.inl h)
     . exact .inl h
     exact .inr (.inr h)
   rintro(h | h | h)
   . exact .inr (.inl h)
   . exact .inl h
   exact .inr (.inr h)
theorem d_7 {p:List Int}:∀ {l:List (List Int)},pK l ->pK (c_v p l)
 | [],_=>by simp [c_v]
 | q ::l,h=>by
   obtain⟨h1,h2⟩:=List.pairwise_cons.1 h;unfold c_v;split
   . rename_i a
     refine List.pairwise_cons.2 ⟨fun x hx=> ?_,h⟩;rcases OJ hx with rfl | hx
     . exact a
     exact G7 a (h1 x hx)
   split
   . exact h
   rename_i hn b
   refine List.pairwise_cons.2 ⟨fun x hx=> ?_,d_7 h2⟩;rcases e_3.1 hx with rfl | hx
   . rcases G8 x q with h | h | h
     . exact absurd h hn
     . exact absurd h b
     exact h
   exact h1 x hx
theorem m4 {x:List Int}:∀ {l:List (List Int)},x∈oY l ↔ x∈l
 | []=>by simp [oY]
 | p::l=>by
   show x∈c_v p (oY l) ↔ _
   rw [e_3,m4,List.mem_cons]
theorem j8:∀l:List (List Int),pK (oY l)
 | []=>by simp [oY]
 | p::l=>d_7 (j8 l)
theorem LK {p:List Int} (h:nY p p < 0):False:=by rw [K2]at h;omega
theorem sK:∀ {l l':List (List Int)},pK l ->pK l' ->(∀x,x∈l ↔ x∈l') ->l=l'
 | [], [],_,_,_=>rfl
 | [],q::l',_,_,h=>absurd ((h q).2 P6) P6
 | p::l, [],_,_,h=>absurd ((h p).1 P6) P6
 | p ::l,q::l',h1,h2,h=>by
   obtain⟨a1,a2⟩:=List.pairwise_cons.1 h1;obtain⟨b1,b2⟩:=List.pairwise_cons.1 h2;have a:p=q:=by
    rcases OJ ((h p).1 P6)with e | e
    . exact e
    rcases OJ ((h q).2 P6)with e' | e'
    . exact e'.symm
    exact absurd (G7 (b1 p e) (a1 q e')) fun h=>LK h
   subst a;rw [sK a2 b2 fun x=> ?_]
   constructor
   . intro hx
     rcases OJ ((h x).1 t_u)with e | e
     . subst e;exact absurd (a1 x hx) fun h=>LK h
     exact e
   intro hx;rcases OJ ((h x).2 t_u)with e | e
   . subst e;exact absurd (b1 x hx) fun h=>LK h
   exact e
theorem k_X {l r:List (List Int)} (h:pK r) (hm:∀x,x∈r ↔ x∈l):r=oY l:=
 sK h (j8 l) fun x=>by rw [hm,m4]
theorem mJ (a b:List PX):iV (a ++ b)=iV a ++ iV b:=List.map_append
theorem B8 (x:PX):iV [x]= [x.1]:=rfl
theorem b_G (xs:List PX) (hs:k_W (iV xs)):∀k,k <= xs.length ->pK (iV (tZ (fun x y=>decide (x.1=y.1)) xs k))/\(∀p,p∈iV (tZ (fun x y=>decide (x.1=y.1)) xs k) ↔ p∈iV (xs.take k))/\∀x∈tZ (fun x y=>decide (x.1=y.1)) xs k,x∈xs
 | 0,_=>by simp [tZ]
 | k + 1,hk=>by
   obtain⟨h1,h2,h3⟩:=b_G xs hs k P2;have a:k < xs.length:=P2
   have c:xs.take (k+1)=xs.take k ++ [xs[k]]:=O1 a;have f:∀p∈iV (xs.take k),¬nY xs[k].1 p < 0:=by
    intro p hp;simp only [List.mem_map]at hp;obtain⟨x,hx,rfl⟩:=hp;obtain⟨j,hj,rfl⟩:=List.mem_iff_getElem.1 hx;have d:j < k:=YK
    have h:=List.pairwise_iff_getElem.1 hs j k P8 s_R d
    simpa using h
   by_cases hd:k=0∨decide (xs[k].1=(xs[k - 1]' P2).1)=false
   . rw [LJ (eq:=fun x y=>decide (x.1=y.1)) a hd,c]
     refine⟨?_,fun p=> ?_,fun x hx=> ?_⟩
     . rw [mJ,B8]
       refine List.pairwise_append.2 ⟨h1,by simp,fun p hp q hq=> ?_⟩;rw [O9 hq];have b:=(h2 p).1 hp
       have hn:=f p b;rcases G8 p xs[k].1 with h | h | h
       . exact h
       . exfalso
         rcases hd with h0 | hd
         . subst h0;simp at b
         simp only [decide_eq_false_iff_not]at hd
         apply hd
         -- the one ahead lies between
         have e:k≠0:=by rintro rfl;simp at b
         have hb:=List.pairwise_iff_getElem.1 hs (k - 1) k P8 s_R P2;simp only [List.getElem_map]at hb;simp only [List.mem_map]at b;obtain⟨x,hx,rfl⟩:=b;obtain⟨j,hj,rfl⟩:=List.mem_iff_getElem.1 hx;have d:j < k:=YK
         simp only [List.getElem_take]at h hn;by_cases g:j=k - 1
         . subst g;exact h.symm
         have hc:=List.pairwise_iff_getElem.1 hs j (k - 1) P8 P8 P2;simp only [List.getElem_map]at hc;rw [h]at hc;rcases G8 xs[k].1 (xs[k - 1]' P2).1 with h' | h' | h'
         . exact absurd h' hb
         . exact h'
         exact absurd h' hc
       exact absurd h hn
     . rw [mJ,mJ,List.mem_append,List.mem_append,h2]
     rcases OQ hx with hx | hx
     . exact h3 x hx
     simp only [List.mem_singleton]at hx;subst hx;exact NY a
   have e:0 < k:=P2
   have he:decide (xs[k].1=(xs[k - 1]' P2).1)=true:=by
    cases h:decide (xs[k].1=(xs[k - 1]' P2).1)with
    | true=>rfl
    | false=>exact absurd (.inr h) hd
   rw [b_7 (eq:=fun x y=>decide (x.1=y.1)) a e he,c];refine⟨h1,fun p=> ?_,h3⟩;rw [h2,mJ,B8,List.mem_append];constructor
   . exact .inl
   rintro(h | h)
   . exact h
   rw [O9 h];rw [of_decide_eq_true he];refine List.mem_map.2 ⟨xs[k - 1]' P2, ?_,rfl⟩;exact List.mem_iff_getElem.2 ⟨k - 1,by simp;omega,by simp⟩
theorem N5.own {w w':World} {r:Option Nat} {L:Nat} {x:PX} (h:N5 w (fun k=>L <= k/\r≠some k) x) (hg:w.grownBy w' r):N5 w' (fun k=>L <= k/\r≠some k) x:=
 RowQ.keep h hg.size (fun k hk a=>hg.block k a (fun e=>hk.2 e.symm)) (fun _ h _=>h)
def InP (W:World) (M L:Nat) (v:Value) (xs:List PX) (l:List (List Int)) (e:Ending) (w':World):Prop:=
 ∃v' ys,e= .returned v'/\lV w' M L v' ys/\iV ys=l/\(∀x∈ys,x∈xs)/\(∀k,v'.ownBlock=some k ->v.ownBlock=some k)/\W.grownBy w' v.ownBlock
theorem r_j (M L:Nat) (v:Value) (xs:List PX) (W:World) (hx:lV W M L v xs) (hn:xs.length <= 100000000):Calls Tryz.prog 145 #[v] W (InP W M L v xs (oY (iV xs))):=by
 have HS:=a6 (q_0 M L v xs W hx hn);have HC:=a6 (fun(w1:World) (ys:List PX) (hp:ys.Perm xs) (hy:lV w1 M L v ys)=>r_E 17 (fun x y=>decide (x.1=y.1)) M L v ys w1 P5 hy (by rw [hp.length_eq];exact hn) fun x f y g W' hg=>by
  obtain⟨x0,xa,xc⟩:=x;obtain⟨y0,ya,yc⟩:=y;exact(d_B x0 y0 xa ya xc yc _ W' (N5.own (hy.all _ f) hg).row (N5.own (hy.all _ g) hg).row).mono fun e w' hh=>⟨hh.1,hh.2.below _⟩)
 obtain⟨a,c,rfl⟩:=hx.form;clear hx;go_enter Tryz.func145,Tryz.ntmps145;go_wp2_with fail;refine HS.o.mono ?_;rintro e w1 ⟨rfl,ys,hp,hs,hy,hg⟩;have b:=a6 (HC.o w1 ys hp hy)
 have Hp:=a6 hp;have Hs:=a6 hs;have Hg:=a6 hg
 clear HS HC hp hs hy hg;go_wp2_with fail;refine b.o.mono ?_;rintro e w2 ⟨v',rfl,hz,hk,hg⟩;obtain⟨a',c',d⟩:=hz.form;have Hz:=a6 hz;have Hk:=a6 hk;have h:=a6 hg
 have Hv:=a6 d;clear b hz hk hg d;go_wp2_with fail;go_ret;obtain⟨h1,h2,h3⟩:=b_G ys Hs.o ys.length (a8);rw [List.take_length]at h2;refine⟨v',_,rfl,Hz.o, ?_,fun x hx=>Hp.o.subset (h3 x hx),Hk.o,Hg.o.trans h.o⟩;exact k_X h1 fun x=>by rw [h2];exact(Hp.o.map (·.1)).mem_iff
def dX (n:aX) (p:List Int):Bool:=match l9 n p with
 | some k=> !b8 k
 | none=>false
theorem q_1 (n:aX) (c0 c1 c2 c3:Value) (N:Nat) (p:List Int) (pa:Option Addr) (pc:Nat) (W:World) (c:n.wt <= 100000000) (hv:bY W W n (.agg #[c0,c1,c2,c3])) (hN:At W N [c0,c1,c2,c3] 35) (hp:RowA W W 1 pa p.length pc (p.map (Value.int .i64))):
 Calls Tryz.prog 146 #[(pa,p.length,pc), .pointer N] W fun e w'=>e= .returned (!dX n p)/\Below W W w':=by
 have HG:=a6 (f_G n p _ pa pc W c hv hp);obtain⟨⟨x0,x1,x2,x3⟩, -,xl⟩:=hN.f4;unfold dX;cases b:l9 n p with
 | none=>
   rw [b]at HG;clear hv hN hp b;go_enter Tryz.func146,Tryz.ntmps146;go_wp2_with fail;refine HG.o.mono ?_;rintro e w1 ⟨rfl,a⟩;have Hb:=a6 a
   clear a HG x0 x1 x2 x3 xl;go_wp2_with fail;go_ret;exact⟨rfl,Hb.o.trans ((b7 w1 _).mono Hb.o.size)⟩
 | some k=>
   rw [b]at HG;clear hv hN hp b;go_enter Tryz.func146,Tryz.ntmps146;go_wp2_with fail;refine HG.o.mono ?_;rintro e w1 ⟨cs,rfl,hq,a⟩;obtain⟨l,ps,t,ks⟩:=k;have d:=NodeQ.node _ _ hq;unfold dY at d;obtain⟨ap,cp,at_,ct,ak,ck,css,rfl, -⟩:=d;have Hb:=a6 a;clear a HG x0 x1 x2 x3 xl hq;go_wp2_with fail;go_ret;exact⟨bJ (by simp [b8]),Hb.o.trans ((b7 w1 _).mono Hb.o.size)⟩
section
variable {tb ob eb cb B MX M : Nat} {caps : Array Value} {want : aX -> Bool}
theorem n_I (k3:∀args w,(callFunc cb args).run Tryz.prog w= .ok (.enter cb args) w) (hA:n_F B cb caps want MX) (h0:B <= ob) (U:B <= M) (m:Nat):
 ∀ (n:aX) (v:Value) (p:List Int) (pa:Option Addr) (pc:Nat) (l:List (List Int)) (ov:Value) (cs:List Value) (W:World),n.wt <= m ->n.wt <= MX ->l.length+n.wt <= 1000000000 ->p.length+n.wt <= 100000000 ->bY W B n v ->M <= W.heap.size ->
   uJ W tb ob eb cb caps M l ov cs ->RowQ W (fun b=>M <= b/\ov.ownBlock≠some b) 1 pa p.length pc (p.map (Value.int .i64)) ->
   Calls Tryz.prog 204 #[v,(pa,p.length,pc), .pointer tb, .pointer ob, .pointer eb] W (n_G tb ob eb cb caps M ov W (l ++ jZ want n p)):=by
 induction m with
 | zero=>intro n v p pa pc l ov cs W hm;have:=J4 n;omega
 | succ m ih=>
   intro n v p pa pc l ov cs W hm h1 hl j4 hv hM s O;have IH:=a6 ih
   have h2:=hv;obtain⟨lf,ps,t,ks⟩:=n;obtain⟨ap,cp,at_,ct,ak,ck,css,rfl, -, -,hk,hc⟩:=h2.open;have j5:1+iQ ps+t.length+fY ks=(aX.mk lf ps t ks).wt:=rfl;have V:=(Below.refl W W).alloc (a8) (Obj.cells #[lf,(ap,ps.length,cp),(at_,t.length,ct),(ak,ks.length,ck)] 35);have HW:=a6 (hA (.mk lf ps t ks) _ _ h1 (hv.keep (V.mono (aJ U hM)) (a8)) P8);obtain⟨R,hR⟩:∃R,R=l ++ jZ want (.mk lf ps t ks) p:=⟨_,rfl⟩;rw [<- hR];obtain⟨b,hb⟩:∃b,b=want (.mk lf ps t ks):=⟨_,rfl⟩;rw [<- hb]at HW;have HR:Hid ((l ++ if b=true then [p] else []) ++ kV want ks 0 p=R):=by
    show _=R
    rw [hR,hb,jZ,O4]
   have h3:∀q∈ks,q.wt <= m/\q.wt <= MX/\q.wt <= fY ks:=fun q hq=>by have:=jJ hq;omega
   have k4:p.length+1 <= 100000000:=P2
   have k5:l.length+1+fY ks <= 1000000000:=P2
   have k6:p.length+1+fY ks <= 100000000:=P2
   have k7:ks.length <= 100000000:=by have:=i7 ks;omega
   have h4:=bV.fresh W lf (ap,ps.length,cp) (at_,t.length,ct) (ak,ks.length,ck);have h5:=a6 h3;have X:=a6 V;have Y:=a6 s;have P:=a6 O;have Hk:=a6 hk;have Hc:=a6 hc;have h6:=a6 h4
   obtain⟨e1,e2,e3,e4,l1,l2,l3⟩:=s.cells;clear h3 V s O hk hc h4 hv h2 j5 hm h1 hl j4 hR hb ih hA e2 e3 e4;go_enter Tryz.func204,Tryz.ntmps204;go_wp2_with fail;refine HW.o.mono ?_;rintro e w1 ⟨rfl,d⟩;have c:Below W W w1:=X.o.trans (d.mono X.o.size)
   have Z:=a6 (h6.o.keep (d.mono P6));have a:=a6 (Y.o.below c);have z:=a6 (P.o.keep (w':=w1) c.size (fun b _ x=>c.block b x) (fun _ hb _=>hb));have h7:=a6 ((K0.refl ob ov W).then c);have H0:Below B W w1:=c.mono (aJ U hM);have h8:=a6 (Hk.o.keep H0 (a8));have h9:=a6 (eX.keep H0 (a8) ks css Hc.o)
   have J0:M <= w1.heap.size:=aJ hM c.size;have j6:W.heap.size < w1.heap.size:=Z.o.facts.2.2.2.2.2;have H1:ov.ownBlock≠some W.heap.size:=Y.o.notOwn (.inr (a8));obtain⟨y1,y2,y3,y4,m1,m2,m3⟩:=a.o.cells;clear d c HW X h6 Y P Hk Hc H0 e1 l1 l2 l3;go_upto_if 11 with fail
   go_cut [] (fun wx=>∃l1 ov1 cs1,l1=(l ++ if b=true then [p] else [])/\uJ wx tb ob eb cb caps M l1 ov1 cs1/\K0 ob ov ov1 w1 wx)
   case first=>
    cases b with
    | false=>
      go_wp2_with fail
      go_meet
      case rel=>exact⟨l,ov,cs,by simp,a.o,K0.refl _ _ _⟩
    | true =>
      go_wp2_with fail
      go_region_law (first
       | (refine bQ rfl 119 _ _ rfl P5 [Value.slice pa p.length pc] ?_ _ (pZ w1 p.length pa pc _ _ (z.o.row.keep ?_ (a8)) ?_ P2) ?_
          . go_simp
          . exact(a7).drew
          . exact a8
          rintro e w2 ⟨v2,rfl,r,d⟩;obtain⟨qa,qc,rfl,hq⟩:=nV r (JV .i64 p);refine⟨_,rfl, ?_⟩;have j:=a6 (((Below.refl w1 w1).drew).trans d);have Hq:=a6 hq;obtain⟨z1,z2,z3,z4,n1,n2,n3⟩:=(a.o.below j.o).cells;have H2:=a6 (a.o.below j.o).own;clear d r hq)
       | (refine JX rfl _ _ 47 rfl M 36 () 1 24 Tryz.underlying47 E9 rfl P9 ov l.length cs ?_ (H2.o.alloc _) w2 1 1 (w2+1) [(qa,p.length,qc)] ?_ (B6 _ _ _ _ rfl P2) ?_ ?_ ?_ ?_
          . go_simp
          . go_simp
          . unfold maxLen;omega
          . omega
          . have:=j.o.size;simp;omega
          intro v' w3 A C E;obtain⟨va,vc,rfl, -⟩:=eK A (by intro u hu;rcases OQ hu with h | h;exact a.o.rows.one u h;simp at h;subst h;rfl);have J1:=a6 (a.o.push J0 j.o Hq.o C A E);have K:w3.heap[ob]? =some (Obj.cells #[ov] 47 (0,0)):=by
           rw [C.block ob P8 (fun e=>a.o.notOwn (.inl a.o.lt.2.1) e.symm),Lib.alloc_old _ _ _ n2];exact(a.o.below j.o).o
          have q3:w3.cell? ob=some ov:=by rw [Lib.cell_of_heap K];rfl
          have q4:w3.frozen? ob=false:=Lib.frozen_of_heap K _;have q5:ob < w3.heap.size:=(Array.getElem?_eq_some_iff.1 K).1;clear A C E K))
      all_goals
       go_wp2_with fail
       go_meet
       case rel=>exact⟨_,_,_,by simp,J1.o.1,J1.o.2⟩
   case rest =>
    obtain⟨l1,ov1,cs1,rfl,s,f⟩:=hcut;have j7:=a6 (h7.o.trans f);have j8:=a6 (show bV wc W _ _ _ _ by unfold bV;rw [f.block _ j6 (by have:=a.o.lt.2.1;omega) H1];exact Z.o);have H3:=a6 (z.o.stay (f.stay a.o.lt.2.1));have H4:Below B w1 wc:=f.below h0 P2 (fun k hk=>by have:=(a.o.own.lt k hk).1;omega);have j9:=a6 (h8.o.keep H4 (a8));have K1:=a6 (eX.keep H4 (a8) ks css h9.o)
    have k1:ov1.ownBlock≠some W.heap.size:=by
     rcases f.where_ with h | h
     . rw [h];exact H1
     intro e;have:=h _ e;omega
    have F:=a6 s;have K2:M <= wc.heap.size:=aJ J0 f.size;have J2:(l ++ if b=true then [p] else []).length+fY ks <= 1000000000:=by rw [NZ];split <;> simp <;> omega
    obtain⟨z0,z1,z2,z3, -,zl⟩:=j8.o.facts;generalize (l ++ if b=true then [p] else [])=l1 at HR J2 F;clear s f H4 h7 Z z h8 h9 a y1 y2 y3 y4 m1 m2 m3 H1;go_wp2_with fail
    go_loopg [20] ks.length (fun g i wr=>∃ (k:Nat) (l2:List (List Int)) (ov2:Value) (cs2:List Value),i= .int .i64 k/\k+g=ks.length/\l2 ++ kV want (ks.drop k) k p=R/\l2.length+fY (ks.drop k) <= 1000000000/\uJ wr tb ob eb cb caps M l2 ov2 cs2/\K0 ob ov1 ov2 wc wr)
    case atStart=>exact⟨0,l1,ov1,cs1,rfl,by omega,HR.o,J2,F.o,K0.refl _ _ _⟩
    case round=>
     obtain⟨k,l2,ov2,cs2,rfl,hg,J3,J5,s,f⟩:=hrel;have L:=a6 J3;have H5:Below B wc wr:=f.below h0 P2 (fun k hk=>by have:=(F.o.own.lt k hk).1;omega);have H6:=j9.o.keep H5 (a8);have H7:=eX.keep H5 (a8) ks css K1.o
     have J6:M <= wr.heap.size:=aJ K2 f.size;have D:=a6 (H3.o.stay (f.stay F.o.lt.2.1));have J7:=a6 f;have Q:=a6 s
     clear J3 f H5;by_cases x:k < ks.length
     . have k2:(k:Int) < ks.length:=P2
       have H:=h5.o _ (NY x);have hdr:fY (ks.drop k)=ks[k].wt+fY (ks.drop (k+1)):=by
        conv=>lhs;rw [NX x]
        simp only [fY]
       rw [hdr]at J5;have J8:Hid ((l2 ++ jZ want ks[k] (p ++ [(k:Int)])) ++ kV want (ks.drop (k+1)) (k+1) p=R):=by
        show _=R
        rw [O4, <- h_A x];exact L.o
       have J9:=uK want ks[k] (p ++ [(k:Int)]);obtain⟨kb,ko,lk,a1,n1,c1,a2,n2,c2,a3,n3,c3,rfl,k8,H8,g0,g1,g2,g3⟩:=H6.kid_at H7 k x;generalize ks[k]=q at H J8 J9 J5 H8;go_upto_region 6 with fail;have y:=(Below.refl wr wr).alloc (a8) (Obj.cells #[lk,(a1,n1,c1),(a2,n2,c2),(a3,n3,c3)] 35);have N:=bV.fresh wr lk (a1,n1,c1) (a2,n2,c2) (a3,n3,c3);obtain⟨w2,j0⟩:∃w2,w2=wr.alloc (Obj.cells #[lk,(a1,n1,c1),(a2,n2,c2),(a3,n3,c3)] 35):=⟨_,rfl⟩;rw [<- j0]at y N⊢;clear j0;have I:=a6 (Q.o.below y)
       have H9:=a6 (D.o.keep (w':=w2) (ok':=fun b=>M <= b/\ov2.ownBlock≠some b) y.size (fun b _ x=>y.block b x) (fun _ hb _=>hb));have K3:=a6 (dY.keep (y.mono (aJ U J6)) (a8) _ _ H8);have K4:M <= w2.heap.size:=aJ J6 y.size;have k9:p.length <= pc:=D.o.le;obtain⟨x0,x1,x2,x3, -,xl⟩:=N.facts;obtain⟨y1,y2,y3,y4,m1,m2,m3⟩:=I.o.cells;have K5:=a6 y;have K6:=a6 N
       clear y N H8 H6 H7 g0 g1 g2 g3 D h5 L hdr;go_region_law (first
        | (refine l_B rfl _ _ 36 rfl 3 OY 1 8 Tryz.underlying36 b_D rfl P9 pa p.length w2 (p.map (Value.int .i64)) ?_ (H9.o.row.full.keep ?_ (a8)) w2 1 1 (w2+1) [k] ?_ ((B6 w2 _ _ _ rfl P2).keep (a7).drew (a8)) P9 ?_ ?_ ?_
           . go_simp
           . exact((a7).alloc (a8) _).drew
           . go_simp
           . unfold maxLen;omega
           . omega
           intro v' w3 r d;have hz:p.map (Value.int .i64) ++ [.int .i64 (k:Int)]=(p ++ [(k:Int)]).map (Value.int .i64):=P6
           rw [hz]at r;obtain⟨va,vc,rfl,hq⟩:=nV r (JV .i64 _);have G:Below w2 w2 w3:=(((a7).alloc (a8) _).drew).trans (d.mono P6);have j1:=K6.o.keep (G.mono P2);have J:=I.o.below G;have j2:RowQ w3 (fun b=>M <= b/\ov2.ownBlock≠some b) 1 va (p ++ [(k:Int)]).length vc ((p ++ [(k:Int)]).map (Value.int .i64)):=by
            have:=hq.keep (ok':=fun b=>M <= b/\ov2.ownBlock≠some b) (a8) (fun _ _ _=>rfl) (fun b hb _=>by
             have Q0:w2.heap.size+1 <= b:=by simpa using hb
             exact⟨by omega,I.o.notOwn (.inr P2)⟩)
            simpa using this
           have HC:=IH.o q (.agg #[lk,(a1,n1,c1),(a2,n2,c2),(a3,n3,c3)]) (p ++ [(k:Int)]) va vc l2 ov2 cs2 w3 H.1 H.2.1 P2 P8 ⟨_,rfl,dY.keep (G.mono P2) (a8) _ _ K3.o⟩ (aJ K4 G.size) J j2;have K7:=a6 (show Calls Tryz.prog 204 (([.agg #[lk,(a1,n1,c1),(a2,n2,c2),(a3,n3,c3)],(va,(p.length+1),vc)]:List Value).toArray ++ #[.pointer tb, .pointer ob, .pointer eb]) w3 (n_G tb ob eb cb caps M ov2 w3 (l2 ++ jZ want q (p ++ [(k:Int)])))by simpa using HC);have K8:=a6 ((J7.o.then K5.o).then G);obtain⟨t0,t1,t2,t3, -,tl⟩:=j1.facts;obtain⟨r1,r2,r3,r4,s1,s2,s3⟩:=J.cells;clear r d hz hq G j1 J j2 HC)
        | (refine b_6 rfl 204 _ #[.pointer tb, .pointer ob, .pointer eb] _ _ rfl ?_ P5 [.agg #[lk,(a1,n1,c1),(a2,n2,c2),(a3,n3,c3)],(va,(p.length+1),vc)] ?_ _ K7.o ?_
           . go_simp
           . go_simp
           rintro e w4 ⟨rfl,ov3,cs3,S,T⟩;refine⟨_,rfl, ?_⟩;have j3:=a6 S;have K9:=a6 (K8.o.trans T);clear S T))
       all_goals
        go_wp2_with fail
        go_roundg (gk - 1)
        case measure=>omega
        case rel=>exact⟨k+1,_,ov3,cs3,by go_num,by omega,J8.o,by rw [NZ];omega,j3.o,K9.o⟩
     obtain rfl:k=ks.length:=P2
     have k0:Hid (l2=R):=by
      show l2=R
      rw [<- L.o,List.drop_length,kV,List.append_nil]
     clear L H6 H7;go_wp2_with fail
     go_end0
     refine⟨rfl,ov2,cs2, ?_,j7.o.trans J7.o⟩;rw [<- k0.o];exact Q.o
end
def r_k (W:World) (L:List (List Int)) (e:Ending) (w':World):Prop:=
 ∃v cs,e= .returned v/\w'.ownsRow W 36 1 v L.length cs/\tQ w' (fun b=>W.heap.size <= b/\v.ownBlock≠some b) L cs/\Below W W w'
theorem qK {w:World} {M M' e sz n:Nat} {v:Value} {cs:List Value} (h:w.ownsRow M e sz v n cs) (hM:M' <= M):w.ownsRow M' e sz v n cs:=by
 obtain⟨hl,h2⟩:=h;exact⟨hl,h2.imp id fun⟨g,cap,cur,hv,hb,hr⟩=>⟨g,cap,cur,hv,by omega,hr⟩⟩
theorem n_J {cb MX:Nat} {caps:Array Value} {want:aX ->Bool} (u:∀args w,(callFunc cb args).run Tryz.prog w= .ok (.enter cb args) w) (n:aX) (v:Value) (W:World) (hA:n_F W cb caps want MX) (q:n.wt <= MX) (hw:n.wt <= 100000000) (hv:bY W W n v):
 Calls Tryz.prog 156 #[v, .func (.func cb) #[] caps] W (r_k W (jZ want n [])):=by
 have x:=hv;obtain⟨lf,ps,t,ks⟩:=n;obtain⟨ap,cp,at_,ct,ak,ck,css,rfl, -, -, -, -⟩:=x.open;generalize aX.mk lf ps t ks=n at hv q hw⊢;obtain⟨tb,h⟩:∃tb,tb=W.heap.size+1:=⟨_,rfl⟩;obtain⟨ob,k⟩:∃ob,ob=tb+1:=⟨_,rfl⟩;obtain⟨eb,r⟩:∃eb,eb=ob+1:=⟨_,rfl⟩;obtain⟨w0,f⟩:∃w0,w0=(((W.alloc (Obj.cells #[lf,(ap,ps.length,cp),(at_,t.length,ct),(ak,ks.length,ck)] 35)).alloc (Obj.cells #[.func (.func cb) #[] caps] 94)).alloc (Obj.cells #[()] 47)).alloc (Obj.cells #[.nilFunc] 231):=⟨_,rfl⟩;have y:Below W W w0:=by
  rw [f];exact((((a7).alloc (a8) _).alloc P6 _).alloc P8 _).alloc P8 _
 have z:w0.heap.size=W.heap.size+4:=by rw [f];simp
 have h0:bV w0 W lf (ap,ps.length,cp) (at_,t.length,ct) (ak,ks.length,ck):=by
  rw [f];exact(((bV.fresh W _ _ _ _).alloc _).alloc _).alloc _
 have ht:w0.heap[tb]? =some (Obj.cells #[.func (.func cb) #[] caps] 94 (0,0)):=by
  rw [f,Lib.alloc_old _ _ _ P8,Lib.alloc_old _ _ _ P8,h]
  simpa using heap_alloc_new (W.alloc (Obj.cells #[lf,(ap,ps.length,cp),(at_,t.length,ct),(ak,ks.length,ck)] 35)) (Obj.cells #[.func (.func cb) #[] caps] 94)
 have ho:w0.heap[ob]? =some (Obj.cells #[()] 47 (0,0)):=by
  rw [f,Lib.alloc_old _ _ _ P8,k,h]
  simpa using heap_alloc_new ((W.alloc (Obj.cells #[lf,(ap,ps.length,cp),(at_,t.length,ct),(ak,ks.length,ck)] 35)).alloc (Obj.cells #[.func (.func cb) #[] caps] 94)) (Obj.cells #[()] 47)
 have he:w0.heap[eb]? =some (Obj.cells #[.nilFunc] 231 (0,0)):=by
  rw [f,r,k,h];simpa using heap_alloc_new (((W.alloc (Obj.cells #[lf,(ap,ps.length,cp),(at_,t.length,ct),(ak,ks.length,ck)] 35)).alloc (Obj.cells #[.func (.func cb) #[] caps] 94)).alloc (Obj.cells #[()] 47)) (Obj.cells #[.nilFunc] 231)
 have c0:w0.cell? eb=some .nilFunc:=by rw [cell_of_row _ _ _ _ _ _ he];rfl
 have c1:w0.frozen? eb=false:=Lib.frozen_of_heap he _;obtain⟨w1,g⟩:∃w1,w1=w0.setCell eb (.func (.func 204) #[] #[.pointer tb, .pointer ob, .pointer eb]):=⟨_,rfl⟩;have G:w1.heap.size=W.heap.size+4:=by rw [g, <- z];simp [World.setCell]
 have s:Below W W w1:=by rw [g];exact y.setCell (p:=eb) (by show W.heap.size <= eb;omega) _
 have h1:bV w1 W lf (ap,ps.length,cp) (at_,t.length,ct) (ak,ks.length,ck):=by rw [g];exact h0.set P2
 have l:uJ w1 tb ob eb cb caps (W+4) [] () []:=by
  refine⟨?_, ?_, ?_,World.ownsRow_nil _ _ _ _,rfl,by omega⟩
  . rw [g,Below.heap_setCell _ _ _ _ (by show tb≠eb;omega)];exact ht
  . rw [g];exact Lib.heap_setCell_same (i:=0) he _
  rw [g,Below.heap_setCell _ _ _ _ (by show ob≠eb;omega)];exact ho
 have HC:=a6 (n_I u hA (ob:=ob) (M:=W.heap.size+4) P2 P2 n.wt n (.agg #[lf,(ap,ps.length,cp),(at_,t.length,ct),(ak,ks.length,ck)]) [] none 0 [] () [] w1 (a8) q P8 P8 (hv.keep s (a8)) P2 l (RowQ.empty _ _ _));obtain⟨x0,x1,x2,x3, -,xl⟩:=h1.facts;obtain⟨y1,y2,y3,y4,m1,m2,m3⟩:=l.cells;have C:=a6 s;have D:=a6 l;have H:∀ (fn:Fn) (first cap:Array Value) (w:World),(Instr.makeFunc fn first cap).run Tryz.prog w= .ok (.func fn first cap) w:=fun _ _ _ _=>rfl
 have I:=fun(W:World) (a:Addr) (fn:Fn) (first cap:Array Value) (m:Mode)=>run_store Tryz.prog W a (.func fn first cap) m rfl
 clear y h0 s h1 l hv x hA q hw ht ho he;have H1:=a6 h;have H2:=a6 k;have H3:=a6 r;have H4:=a6 f;have H5:=a6 g
 have J:W.heap.size < tb/\tb < ob/\ob < eb:=P2
 have E:W.heap.size <= ob:=P2
 clear h k r f g z;go_enter Tryz.func156,Tryz.ntmps156;go_upto_region 3 with fail;rw [<- H4.o, <- H1.o, <- H2.o, <- H3.o];clear H1 H2 H3 H4;go_upto_region 4 with fail
 rw [<- H5.o];clear H5 c0 c1;go_wp2_with fail;refine HC.o.mono ?_;rintro e w1 ⟨rfl,ov,cs,d,A⟩;have o:=a6 d.own;have j:=a6 d.rows
 obtain⟨a,c,rfl,hq⟩:=nV d.own d.rows.one;have Hq:=a6 hq;obtain⟨z1,z2,z3,z4,n1,n2,n3⟩:=d.cells;have F:=a6 (C.o.trans (A.below (B:=W.heap.size) E P2 (by simp [Value.ownBlock])));clear d A hq HC x0 x1 x2 x3 y1 y2 y3 y4 D u;go_wp2_with fail;go_ret;simp only [List.nil_append]at o j⊢;exact⟨_,cs,rfl,qK o.o P2,j.o.keep (a8) (fun _ _ _=>rfl) (fun b hb _=>⟨by have:=hb.1;omega,hb.2⟩),F.o⟩
theorem n_L (B M:Nat):n_F B 157 #[] (fun _=>true) M:=by
 intro n v W hM hv hB;obtain⟨lf,ps,t,ks⟩:=n;obtain⟨ap,cp,at_,ct,ak,ck,css,rfl, -, -, -, -⟩:=hv.open;have a:=(Below.refl W W).alloc (a8) (Obj.cells #[lf,(ap,ps.length,cp),(at_,t.length,ct),(ak,ks.length,ck)] 35);clear hv hM;show Calls Tryz.prog 157 #[.agg #[lf,(ap,ps.length,cp),(at_,t.length,ct),(ak,ks.length,ck)]] W _
 go_enter Tryz.func157,Tryz.ntmps157
 go_wp2_with fail;go_ret;exact⟨rfl,a⟩
theorem r_G (n:aX) (v:Value) (W:World) (hw:n.wt <= 100000000) (hv:bY W W n v):
 Calls Tryz.prog 78 #[v] W (r_k W (jZ (fun _=>true) n [])):=by
 have g:=hv;obtain⟨lf,ps,t,ks⟩:=n;obtain⟨ap,cp,at_,ct,ak,ck,css,rfl, -, -, -, -⟩:=g.open;generalize aX.mk lf ps t ks=n at hv hw⊢;have d:=(Below.refl W W).alloc (a8) (Obj.cells #[lf,(ap,ps.length,cp),(at_,t.length,ct),(ak,ks.length,ck)] 35);have HC:=a6 (n_J P5 n _ _ (n_L _ n.wt) (a8) hw (hv.keep d d.size));have f:=a6 d;clear d hv g hw;go_enter Tryz.func78,Tryz.ntmps78;go_wp2_with fail;refine HC.o.mono ?_;rintro e w1 ⟨u,cs,rfl,hq,hp,hb⟩;have Hq:=a6 hq;have Hp:=a6 hp;have Hb:=a6 (f.o.trans (hb.mono f.o.size))
 have hs:=f.o.size;obtain⟨a,c,hu, -⟩:=nV hq hp.one;subst hu;clear hq hp hb HC;go_wp2_with fail;go_ret;exact⟨_,cs,rfl,qK Hq.o hs,Hp.o.keep (a8) (fun _ _ _=>rfl) (fun b hb _=>⟨aJ hs hb.1,hb.2⟩),Hb.o⟩
theorem e_4 (xs:List PX) (f:List Int ->Bool):iV (xs.filter fun x=> !!f x.1)=(iV xs).filter f:=by
 simp only [Bool.not_not];rw [List.filter_map];rfl
theorem b_8 (n:aX) (v:Value) (B M L:Nat) (vx:Value) (xs:List PX) (W:World) (b:n.wt <= 100000000) (hv:bY W B n v) (hB:B <= W.heap.size) (l:B <= M) (hx:lV W M L vx xs) (hn:xs.length <= 100000000):
 Calls Tryz.prog 70 #[v,vx] W (InP W M L vx xs (oY ((iV xs).filter (dX n)))):=by
 have m:=hv;obtain⟨lf,ps,t,ks⟩:=n;obtain⟨ap,cp,at_,ct,ak,ck,css,rfl, -, -, -, -⟩:=m.open;generalize aX.mk lf ps t ks=n at hv b⊢;obtain⟨w0,g⟩:∃w0,w0=W.alloc (Obj.cells #[lf,(ap,ps.length,cp),(at_,t.length,ct),(ak,ks.length,ck)] 35):=⟨_,rfl⟩;have d:Below W W w0:=by rw [g];exact b7 _ _
 have hA:At w0 W [lf,(ap,ps.length,cp),(at_,t.length,ct),(ak,ks.length,ck)] 35:=by rw [g];exact At.fresh W _ _
 have h:=hx.below d;have HD:=a6 (j_m 146 #[.pointer W] (fun x=> !dX n x.1) M L vx xs w0 P5 h hn fun x s W' hg=>by
  obtain⟨x0,xa,xc⟩:=x;have i:some W.heap.size≠vx.ownBlock:=fun e=>by have:=(hx.own.lt _ e.symm).2;omega
  have u:At W' W [lf,(ap,ps.length,cp),(at_,t.length,ct),(ak,ks.length,ck)] 35:=by
   unfold At;rw [hg.block _ hA.lt i];exact hA
  have y:Below B w0 W':=hg.old (aJ hB d.size) fun k hk=>aJ l (h.ge k hk)
  have o:Below B W W':=(d.mono hB).trans y;exact q_1 n _ _ _ _ W x0 xa xc W' b (hv.keep o (aJ hB o.size)) u (N5.own (h.all _ s) hg).row)
 have HS:=a6 (fun(w1:World) (v':Value) (hz:lV w1 M L v' (xs.filter fun x=> !(fun x:PX=> !dX n x.1) x))=>r_j M L v' _ w1 hz (aJ (List.length_filter_le _ _) hn));obtain⟨fs,j⟩:∃fs,fs=xs.filter fun x=> !(fun x:PX=> !dX n x.1) x:=⟨_,rfl⟩
 rw [<- j]at HD HS;have p:=a6 j
 have F:∀ (fn:Fn) (first cap:Array Value) (w:World),(Instr.makeFunc fn first cap).run Tryz.prog w= .ok (.func fn first cap) w:=fun _ _ _ _=>rfl
 have z:=a6 d;have q:=a6 g
 obtain⟨a,c,A⟩:=hx.form;subst A;clear hv m b d g hA hx h hB l j;go_enter Tryz.func70,Tryz.ntmps70;go_upto_region 1 with fail;rw [<- q.o];clear q;go_wp2_with fail;refine HD.o.mono ?_;rintro e w1 ⟨v',rfl,hz,hk,hg⟩;have r:=a6 (HS.o w1 v' hz)
 obtain⟨a',c',C⟩:=hz.form;subst C;have Hk:=a6 hk;have Hg:=a6 hg
 clear HD HS hz hk hg;go_wp2_with fail;refine r.o.mono ?_;rintro e w2 ⟨v2,ys,rfl,hy,hp,hm,hk,hg⟩;obtain⟨a2,c2,D⟩:=hy.form;subst D;have Hy:=a6 hy;have Hp:=a6 hp;have Hm:=a6 hm;have E:=a6 hk;have f:=a6 hg
 clear r hy hp hm hk hg;go_wp2_with fail;go_ret;refine⟨_,ys,rfl,Hy.o, ?_,fun x hx=>(List.mem_filter.1 (p.o ▸ Hm.o x hx)).1,fun k hk=>Hk.o k (E.o k hk), ?_⟩
 . rw [Hp.o,p.o,e_4]
 refine(cX z.o).trans (Hg.o.trans ?_);refine⟨f.o.os,f.o.tape,f.o.output,f.o.size,fun k hk i=>f.o.block k hk fun e=>i ?_⟩;rw [Hk.o k e.symm]
end Go.Proofs.YtmadpclcmjahoaaGreatDoor
