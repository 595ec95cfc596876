/- Parts of the proof: 7. -/
import Derived.Test.YtmadpclcmjahoaaGreatDoorFN1
import Derived.Test.YtmadpclcmjahoaaGreatDoorFN6
import Derived.Deep.RegionHeld3
import Derived.Test.YtmadpclcmjahoaaGreatDoorFN2
import Derived.Test.YtmadpclcmjahoaaGreatDoorFN3
set_option linter.unusedVariables false
set_option linter.unusedSimpArgs false
set_option maxHeartbeats 8000000
set_option maxRecDepth 100000
namespace Go.Proofs.YtmadpclcmjahoaaGreatDoor
open Go.RowKit Go.Redl
def e_V (eq:PX ->PX ->Bool) (xs:List PX) (k:Nat):Bool:=decide (k=0) || !eq (xs.getD k px0) (xs.getD (k - 1) px0)
def pK (eq:PX ->PX ->Bool) (xs:List PX):Nat ->List PX
 | 0=> []
 | k+1=>pK eq xs k ++ (if e_V eq xs k then [xs.getD k px0] else [])
theorem GK {eq:PX ->PX ->Bool} {xs:List PX} {k:Nat} (hk:k < xs.length) (h:k=0∨eq xs[k] (xs[k - 1]'(by omega))=false):pK eq xs (k+1)=pK eq xs k ++ [xs[k]]:=by
 have hK:e_V eq xs k=true:=by
  unfold e_V
  rcases h with h | h
  . simp [h]
  . rw [GJ hk,GJ (show k - 1 < xs.length by omega),h];simp
 show pK eq xs k ++ _=_
 rw [if_pos hK,GJ hk]
theorem M9 {eq:PX ->PX ->Bool} {xs:List PX} {k:Nat} (hk:k < xs.length) (h0:0 < k) (h:eq xs[k] (xs[k - 1]'(by omega))=true):pK eq xs (k+1)=pK eq xs k:=by
 have hK:e_V eq xs k=false:=by
  unfold e_V
  rw [GJ hk,GJ (show k - 1 < xs.length by omega),h];simp;omega
 show pK eq xs k ++ _=_
 rw [hK];simp
theorem m_N (g:Nat) (eq:PX ->PX ->Bool) (M L:Nat) (v:Value) (xs:List PX) (W:World) (hg:∀args w,(callFunc g args).run Tryz.prog w= .ok (.enter g args) w) (hx:jJ W M L v xs) (hn:xs.length <= 100000000)
 (hp:∀x∈xs,∀y∈xs,∀W',W.grownBy W' v.ownBlock ->Calls Tryz.prog g #[D5 x,D5 y] W' fun e w'=>e= .returned (.bool (eq x y))/\Below W'.heap.size W' w'):
 Calls Tryz.prog 200 #[v, .func (.func g) #[] #[]] W (n_t W M L v (pK eq xs xs.length)):=by
 by_cases h2:xs.length < 2
 . have hc:pK eq xs xs.length=xs:=by
    match xs,h2 with
    | [],_=>rfl
    | [x],_=>rfl
   rw [hc]
   obtain⟨a,c,rfl⟩:=hx.form
   have h2i:(xs.length:Int) < 2:=by omega
   have Hx:=a6 hx
   clear hx hp hg hc
   go_enter Tryz.func200,Tryz.ntmps200
   go_wp2_with fail
   go_ret
   exact⟨_,rfl,Hx.o,fun k hk=>hk,World.grownBy.refl _ _⟩
 . rcases hx.open with⟨rfl,rfl⟩ | ⟨b,cap,tl,rfl,hMb,hA,hcl,hcm⟩
   . exact absurd (by simp) h2
   have hq0:∀x∈xs,PxQ W (fun k=>L <= k/\k≠b) x:=fun x hx'=>A8 (hx.all x hx') fun k hk=>⟨hk.1,fun e=>hk.2 (by rw [e];rfl)⟩
   have hown:(Value.slice (some ⟨b,0,none⟩) xs.length cap).ownBlock=some b:=rfl
   rw [hown]at hp
   have HA:=a6 hA;have Hq0:=a6 hq0;have HP:=a6 hp;have Hx:=a6 hx
   have h2i:¬ (xs.length:Int) < 2:=by omega
   have hnd:decide ((xs.length:Int) < 2)=false:=decide_eq_false h2i
   have Hone:=a6 (show pK eq xs 1=xs.take 1 by
    have h:=GK (eq:=eq) (xs:=xs) (k:=0) (by omega) (.inl rfl)
    rw [h];cases xs with
    | nil=>simp at h2
    | cons x xs=>rfl)
   clear hp hx hA hq0 hown
   go_enter Tryz.func200,Tryz.ntmps200
   go_wp2_with fail
   go_loopg [5,6,7] xs.length (fun gg s5 _ _ wr=>∃k:Nat,s5= .int .i64 k/\1 <= k/\k <= xs.length/\xs.length - k <= gg/\Hid (pK eq xs k=xs.take k)/\Hid (Below W.heap.size W wr))
   case atStart=>exact⟨1,rfl,by omega,by omega,by omega,Hone,a7⟩
   case round=>
    obtain⟨k,rfl,h1,hkn,hgg,hcu,hbr⟩:=hrel
    by_cases hlt:k < xs.length
    . have hlti:(k:Int) < (xs.length:Int):=by omega
      have hsub:IntKind.i64.wrap ((k:Int) - 1)=((k - 1:Nat):Int):=by rw [show ((k:Int) - 1)=((k - 1:Nat):Int)by omega];exact IntWalk.i64_in _ (by omega)
      have hi1:((k - 1:Nat):Int) < xs.length:=by omega
      have hk1:k - 1 < xs.length:=by omega
      have hAr:=HA.o.kept hbr.o
      have cj:=tY hAr k (by omega)
      have ci:=tY hAr (k - 1) (by omega)
      have Hbw:=a6 (At.lt hAr)
      have HC:=a6 (fun(w':World) (hb:Below wr.heap.size wr w')=>HP.o xs[k] (List.getElem_mem hlt) xs[k - 1] (List.getElem_mem hk1) w' ((cZ hbr.o).then hb))
      have Hst:=a6 (show xs.take (k+1)=xs.take k ++ [xs[k]]from List.take_succ_eq_append_getElem hlt)
      have Hkeep:=a6 (GK (eq:=eq) hlt)
      have Hskip:=a6 (M9 (eq:=eq) hlt h1)
      generalize xs[k - 1]=y at ci HC Hkeep Hskip
      generalize xs[k]=x at cj HC Hkeep Hskip Hst
      obtain⟨x0,xa,xc⟩:=x
      obtain⟨y0,ya,yc⟩:=y
      unfold D5 at ci cj HC
      have HS0:=a6 (fun(w':World) (hb:Below wr.heap.size wr w')=>And.intro ((hb.cell (by exact Hbw.o)).trans cj) ((hb.cell (by exact Hbw.o)).trans ci))
      clear hAr ci cj
      go_upto_region 6 with fail
      go_region_held3 (fun w'=>w'.cell? ⟨b,k,none⟩=some (.slice xa x0.length xc)/\w'.cell? ⟨b,k - 1,none⟩=some (.slice ya y0.length yc)) (refine HS0.o _ (by((repeat (first | with_reducible exact Hb1.o | with_reducible exact a7 | with_reducible refine Below.drew ?_ | with_reducible refine Below.alloc ?_ ?_ _ | with_reducible refine Below.setCell ?_ ?_ _)) <;> (first | with_reducible exact a8 | with_reducible exact Hb1.o.size | (have hsz:=Hb1.o.size;simp [World.setCell];omega) | (simp;done) | (simp;omega) | omega))))
       (first
       | (refine M8 rfl g _ #[] _ _ rfl ?_ hg [.slice xa x0.length xc, .slice ya y0.length yc] ?_ _ (HC.o _ (by((repeat (first | with_reducible exact a7 | with_reducible refine Below.drew ?_ | with_reducible refine Below.alloc ?_ ?_ _ | with_reducible refine Below.setCell ?_ ?_ _)) <;> (first | with_reducible exact a8 | (simp;done) | (simp;omega) | omega)))) ?_
          . go_simp
          . go_simp
          rintro e w1 ⟨rfl,hbel⟩
          refine⟨_,rfl, ?_⟩
          have Hb1:=a6 (b5 (w0:=wr) (by((repeat (first | with_reducible exact a7 | with_reducible refine Below.drew ?_ | with_reducible refine Below.alloc ?_ ?_ _ | with_reducible refine Below.setCell ?_ ?_ _)) <;> (first | with_reducible exact a8 | (simp;done) | (simp;omega) | omega))) hbel)
          clear hbel))
      all_goals
       cases hq:eq (x0,xa,xc) (y0,ya,yc)with
       | false=>
         have HQ:=a6 (Hkeep.o (.inr hq))
         clear hq HC
         go_wp2_with fail
         go_roundg (xs.length - (k+1))
         case measure=>omega
         case rel=>exact⟨k+1,by go_num,by omega,by omega,a8,(show pK eq xs (k+1)=xs.take (k+1)by rw [HQ.o,hcu.o,Hst.o]),(show Below _ _ _ from hbr.o.trans (Hb1.o.mono hbr.o.size))⟩
       | true=>
         have HQ:=a6 (Hskip.o hq)
         have hb2:=hbr.o.trans (Hb1.o.mono hbr.o.size)
         have HA2:=a6 (HA.o.kept hb2)
         have HG2:=a6 (cZ (r:=some b) hb2)
         clear hq HC hb2 Hkeep Hskip
         have hki:(k:Int) <= xs.length:=by omega
         go_wp2_with fail
         go_loopg [5,7] xs.length (fun gg s5 s7 w2=>∃ (i j:Nat) (zs:List PX),s5= .int .i64 i/\s7= .int .i64 j/\zs.length=xs.length/\i < k+j/\1 <= j/\k+j <= xs.length/\xs.length - (k+j) <= gg/\Hid (zs.take i=pK eq xs (k+j))/\Hid (zs.drop (k+j - 1)=xs.drop (k+j - 1))/\Hid (∀z∈zs,z∈xs)/\Hid (At w2 b (zs.map D5 ++ tl) 36)/\Hid (W.grownBy w2 (some b)))
         case atStart=>exact⟨k,1,xs,rfl,rfl,rfl,by omega,by omega,by omega,by omega,(show xs.take k=pK eq xs (k+1)by rw [HQ.o,hcu.o]),rfl,fun z hz=>hz,HA2,HG2⟩
         case round=>
          obtain⟨i,j,zs,rfl,rfl,hzl,hij,hj1,hjn,hgg2,hdone,hrest,hmem,hAt,hgr⟩:=hrel
          by_cases hlt2:k+j < xs.length
          . have hltj:(j:Int) < ((xs.length - k:Nat):Int):=by omega
            have hsub2:IntKind.i64.wrap ((j:Int) - 1)=((j - 1:Nat):Int):=by rw [show ((j:Int) - 1)=((j - 1:Nat):Int)by omega];exact IntWalk.i64_in _ (by omega)
            have hj2:((j - 1:Nat):Int) < ((xs.length - k:Nat):Int):=by omega
            have hiti:(i:Int) < (xs.length:Int):=by omega
            have hp1:k+(j - 1) < xs.length:=by omega
            have hz0:zs[k+(j - 1)]=xs[k+(j - 1)]:=by
             have h:=hrest.o
             rw [show k+j - 1=k+(j - 1)by omega,List.drop_eq_getElem_cons (show k+(j - 1) < zs.length by omega),List.drop_eq_getElem_cons hp1]at h
             exact(List.cons.inj h).1
            have hr2:zs.drop (k+j)=xs.drop (k+j):=by
             have h:=congrArg (List.drop 1) hrest.o
             rw [List.drop_drop,List.drop_drop,show k+j - 1+1=k+j by omega]at h
             exact h
            have hz1:zs[k+j]=xs[k+j]:=by
             have h:=hr2
             rw [List.drop_eq_getElem_cons (show k+j < zs.length by omega),List.drop_eq_getElem_cons hlt2]at h
             exact(List.cons.inj h).1
            have cj:=tY hAt.o (k+j) (by omega)
            have ci:=tY hAt.o (k+(j - 1)) (by omega)
            rw [hz1]at cj;rw [hz0]at ci
            have Hbw2:=a6 (At.lt hAt.o)
            have Hr2:=a6 hr2
            have HC:=a6 (fun(w':World) (hb:Below wr.heap.size wr w')=>HP.o xs[k+j] (List.getElem_mem hlt2) xs[k+(j - 1)] (List.getElem_mem hp1) w' (hgr.o.then hb))
            have hpos:0 < k+j:=by omega
            have Hkeep:=a6 (show eq xs[k+j] xs[k+(j - 1)]=false ->pK eq xs (k+j+1)=pK eq xs (k+j) ++ [xs[k+j]]from fun h=>GK hlt2 (.inr (by simpa only [show k+j - 1=k+(j - 1)by omega]using h)))
            have Hskip:=a6 (show eq xs[k+j] xs[k+(j - 1)]=true ->pK eq xs (k+j+1)=pK eq xs (k+j)from fun h=>M9 hlt2 hpos (by simpa only [show k+j - 1=k+(j - 1)by omega]using h))
            have Hmem:=a6 (show xs[k+j]∈xs from List.getElem_mem hlt2)
            clear hz0 hz1 hr2
            generalize xs[k+(j - 1)]=y at ci HC Hkeep Hskip
            generalize xs[k+j]=x at cj HC Hkeep Hskip Hmem
            obtain⟨x1,xb,xd⟩:=x
            obtain⟨y1,yb,yd⟩:=y
            unfold D5 at ci cj HC
            have HS1:=a6 (fun(w':World) (hb:Below wr.heap.size wr w')=>And.intro ((hb.cell (by exact Hbw2.o)).trans cj) ((hb.cell (by exact Hbw2.o)).trans ci))
            clear ci cj
            go_upto_region 11 with fail
            go_region_held3 (fun w'=>w'.cell? ⟨b,k+j,none⟩=some (.slice xb x1.length xd)/\w'.cell? ⟨b,k+(j - 1),none⟩=some (.slice yb y1.length yd)) (refine HS1.o _ (by((repeat (first | with_reducible exact Hb3.o | with_reducible exact a7 | with_reducible refine Below.drew ?_ | with_reducible refine Below.alloc ?_ ?_ _ | with_reducible refine Below.setCell ?_ ?_ _)) <;> (first | with_reducible exact a8 | with_reducible exact Hb3.o.size | (have hsz:=Hb3.o.size;simp [World.setCell];omega) | (simp;done) | (simp;omega) | omega))))
             (first
             | (refine M8 rfl g _ #[] _ _ rfl ?_ hg [.slice xb x1.length xd, .slice yb y1.length yd] ?_ _ (HC.o _ (by((repeat (first | with_reducible exact a7 | with_reducible refine Below.drew ?_ | with_reducible refine Below.alloc ?_ ?_ _ | with_reducible refine Below.setCell ?_ ?_ _)) <;> (first | with_reducible exact a8 | (simp;done) | (simp;omega) | omega)))) ?_
                . go_simp
                . go_simp
                rintro e w3 ⟨rfl,hbel⟩
                refine⟨_,rfl, ?_⟩
                have Hb3:=a6 (b5 (w0:=wr) (by((repeat (first | with_reducible exact a7 | with_reducible refine Below.drew ?_ | with_reducible refine Below.alloc ?_ ?_ _ | with_reducible refine Below.setCell ?_ ?_ _)) <;> (first | with_reducible exact a8 | (simp;done) | (simp;omega) | omega))) hbel)
                clear hbel))
            all_goals
             cases hq:eq (x1,xb,xd) (y1,yb,yd)with
             | false=>
               have HQ3:=a6 (Hkeep.o hq)
               have HA3:=a6 (hAt.o.kept Hb3.o);have HG3:=a6 (hgr.o.then Hb3.o)
               have ci:=tY HA3.o i (by omega)
               have cf:w3.frozen? ⟨b,i,none⟩=false:=Lib.frozen_of_heap HA3.o _
               have cj:=(Hb3.o.cell (p:=⟨b,k+j,none⟩) (by exact Hbw2.o)).trans (HS1.o wr (a7)).1
               have hi2:i < zs.length:=by omega
               generalize zs[i]=old at ci
               clear hq HC Hkeep Hskip
               go_wp2_with fail
               go_roundg (xs.length - (k+(j+1)))
               case measure=>omega
               case rel=>
                refine⟨i+1,j+1,zs.set i (x1,xb,xd),by go_num,by go_num,by rw [List.length_set];exact hzl,by omega,by omega,by omega,a8, ?_, ?_, ?_, ?_,HG3.o.set i _⟩
                . show (zs.set i (x1,xb,xd)).take (i+1)=pK eq xs (k+(j+1))
                  rw [<- Nat.add_assoc,HQ3.o, <- hdone.o,List.take_set,List.take_succ_eq_append_getElem hi2,List.set_append_right _ _ (by simp;omega)]
                  simp [Nat.min_eq_left (Nat.le_of_lt hi2)]
                . show (zs.set i (x1,xb,xd)).drop (k+(j+1) - 1)=xs.drop (k+(j+1) - 1)
                  rw [show k+(j+1) - 1=k+j by omega,List.drop_set_of_lt (by omega),Hr2.o]
                . intro z hz
                  rcases List.mem_or_eq_of_mem_set hz with h | h
                  . exact hmem.o z h
                  . rw [h];exact Hmem.o
                . show At _ b ((zs.set i (x1,xb,xd)).map D5 ++ tl) 36
                  have h:=HA3.o.set i (D5 (x1,xb,xd))
                  rw [List.set_append_left _ _ (by simpa using hi2), <- List.map_set]at h
                  exact h
             | true=>
               have HQ3:=a6 (Hskip.o hq)
               have HA3:=a6 (hAt.o.kept Hb3.o);have HG3:=a6 (hgr.o.then Hb3.o)
               clear hq HC Hkeep Hskip
               go_wp2_with fail
               go_roundg (xs.length - (k+(j+1)))
               case measure=>omega
               case rel=>
                refine⟨i,j+1,zs,rfl,by go_num,hzl,by omega,by omega,by omega,a8, ?_, ?_,hmem,HA3,HG3⟩
                . show zs.take i=pK eq xs (k+(j+1))
                  rw [<- Nat.add_assoc,HQ3.o,hdone.o]
                . show zs.drop (k+(j+1) - 1)=xs.drop (k+(j+1) - 1)
                  rw [show k+(j+1) - 1=k+j by omega,Hr2.o]
          . have hje:k+j=xs.length:=by omega
            have hltz:¬ (j:Int) < ((xs.length - k:Nat):Int):=by omega
            have hiti:(i:Int) <= (xs.length:Int):=by omega
            have hcl:=fun ty=>Lib.run_clear_slice (P:=Tryz.prog) wr 47 36 ty (.slice none 0 0) Tryz.underlying47 (fun w=>by kernel_rfl) rfl rfl b (0+i) (xs.length - i) (cap - i) (by omega) (fun k hk=>by
             have:=tY hAt.o (i+k) (by omega)
             rw [Nat.zero_add,this];rfl) (fun k hk=>Lib.frozen_of_heap hAt.o _)
            rw [Nat.zero_add]at hcl
            have Hcut:=a6 (jJ.cut (i:=i) (n:=xs.length) hMb hAt.o (by omega) hcm (by omega) (fun x hx'=>(Hq0.o x (hmem.o x hx')).grown hgr.o))
            have Hgs:=a6 (fun vs=>World.grownBy.setCells vs i wr hgr.o)
            have Hfin:=a6 (show zs.take i=pK eq xs xs.length by rw [hdone.o,hje])
            have Hlen:Hid ((zs.take i).length=i):=by show _=_;simp;omega
            obtain⟨vs,hvs⟩:∃vs,vs=List.replicate (xs.length - i) (Value.slice none 0 0):=⟨_,rfl⟩
            rw [<- hvs]at hcl
            clear hAt hgr hvs hje
            go_wp2_with fail
            go_ret
            rw [<- Hfin.o]
            refine⟨.slice (some ⟨b,0,none⟩) (zs.take i).length cap,by rw [Hlen.o];rfl,Hcut.o vs,fun k hk=>hk,Hgs.o vs⟩
    . obtain rfl:k=xs.length:=by omega
      have hltz:¬ (xs.length:Int) < (xs.length:Int):=by omega
      have hfull:=a6 (show pK eq xs xs.length=xs by have:=hcu.o;rwa [List.take_length]at this)
      clear hcu
      go_wp2_with fail
      go_ret
      rw [hfull.o]
      exact⟨_,rfl,Hx.o.below hbr.o,fun k hk=>hk,cZ hbr.o⟩
open Go.Sort Go.Shelf
section
variable {α : Type} [Inhabited α]
theorem a_k (enc: α ->Value) (w:World) (blk off m:Nat) (dk:Array α) (os:Array Obj):w.grownBy (sortWorld enc w blk off m dk os) (some blk):=by
 refine⟨rfl,rfl,rfl, ?_,fun k hk hne=> ?_⟩
 . simp [sortWorld,grow,putRow,mapBlock,Sort.ahead]
 . have hne':¬blk=k:=fun e=>hne (by rw [e])
   show ((w.heap.modify blk _) ++ os)[k]? =w.heap[k]?
   rw [Array.getElem?_append_left (by simpa using hk),Array.getElem?_modify,if_neg hne']
theorem e_7 (enc: α ->Value) (w:World) (b m:Nat) (dk:Array α) (os:Array Obj) (l:List Value) (tl:List Value) (T:TypeId) (h:At w b (l ++ tl) T) (hl:dk.size=l.length):
 At (sortWorld enc w b 0 m dk os) b (dk.toList.map enc ++ tl) T:=by
 have hb:=h.lt
 unfold At at h⊢
 show ((w.heap.modify b _) ++ os)[b]? =_
 rw [Array.getElem?_append_left (by simpa using hb),Array.getElem?_modify,if_pos rfl,h]
 simp only [Option.map_some,onCells]
 congr 2
 apply Array.ext_getElem?
 intro k
 unfold putCells
 rw [Array.getElem?_mapIdx]
 simp only [List.getElem?_toArray,Nat.zero_le,true_and,Nat.zero_add,Nat.sub_zero]
 by_cases hk:k < dk.size
 . rw [List.getElem?_append_left (by omega),List.getElem?_append_left (by simpa using hk),List.getElem?_map,List.getElem?_eq_getElem (show k < l.length by omega)]
   simp [hk]
 . rw [List.getElem?_append_right (by omega),List.getElem?_append_right (by simpa using hk)]
   have hk':¬k < l.length:=by omega
   simp [hk',hl]
end
abbrev h_D (l:List (List Int)):Prop:=l.Pairwise fun p q=>¬nZ q p < 0
def n_u (W:World) (M L:Nat) (v:Value) (xs:List PX) (e:Ending) (w':World):Prop:=
 e= .returned (.tuple #[])/\∃ys:List PX,ys.Perm xs/\h_D (C5 ys)/\jJ w' M L v ys/\W.grownBy w' v.ownBlock
theorem j_y {α :Type} (f: α ->List Int):SWO (ltOf fun x y: α =>nZ (f x) (f y)) where
 irrefl x:=by simp [ltOf,KX]
 trans x y z h1 h2:=by
  unfold ltOf at *
  simp only [decide_eq_true_eq]at *
  exact C6 h1 h2
 ntrans x y z h1 h2:=by
  unfold ltOf at *
  simp only [decide_eq_false_iff_not]at *
  intro h3
  rcases C7 (f y) (f x)with h | h | h
  . rcases C7 (f z) (f y)with h' | h' | h'
    . have:=C6 h3 h'
      exact h1 this
    . rw [h']at h3;exact h1 h3
    . exact h2 h'
  . rw [h]at h2;exact h2 h3
  . exact h1 h
theorem i_c (fv:Value) (W:World):Calls Tryz.prog 265 #[.slice none 0 0, .int .i64 0, .int .i64 0,fv] W fun e w'=>e= .returned (.tuple #[])/\w'=W:=by
 go_enter Tryz.func265,Tryz.ntmps265
 go_wp2_with fail
 go_loopg [8,9] 1 (fun g i _ wr=>i= .int .i64 1/\wr=W)
 case atStart=>exact⟨rfl,rfl⟩
 case round=>
  obtain⟨rfl,rfl⟩:=hrel
  go_wp2_with fail
  go_end0
  exact⟨rfl,rfl⟩
theorem m_O (lim:Int) (fv:Value) (W:World):Calls Tryz.prog 246 #[.slice none 0 0, .int .i64 0, .int .i64 0, .int .i64 lim,fv] W fun e w'=>e= .returned (.tuple #[])/\w'=W:=by
 have HI:=a6 (i_c fv W)
 go_enter Tryz.func246,Tryz.ntmps246
 go_wp2_with fail
 go_loopg [1,2,3,10,11,12] 1 (fun g a b l _ _ _ wr=>a= .int .i64 0/\b= .int .i64 0/\l= .int .i64 lim/\wr=W)
 case atStart=>exact⟨rfl,rfl,rfl,rfl⟩
 case round=>
  obtain⟨rfl,rfl,rfl,rfl⟩:=hrel
  go_wp2_with fail
  refine HI.o.mono ?_
  rintro e w1 ⟨rfl,rfl⟩
  go_wp2_with fail
  exact bodyPost_ret (v:= .tuple #[]) (by simp [results,Tryz.results246]) rfl ⟨rfl,rfl⟩
theorem l_q (fv:Value) (W:World):Calls Tryz.prog 198 #[.slice none 0 0,fv] W fun e w'=>e= .returned (.tuple #[])/\w'=W:=by
 have hl:Calls Tryz.prog 163 #[.int .u64 0] W fun e w'=>e= .returned (.int .i64 (Lib.bitLen 0:Nat))/\w'=W:=
  Any.bits_Len (SlLaysF0.n15.bits (P:=Tryz.prog) (ρ :=Tryz.sortL_ren) { Tryz.sortL with }) 0 W (by omega) (by omega)
 have HL:=a6 hl
 have HP:=a6 (fun lim=>m_O lim fv W)
 clear hl
 go_enter Tryz.func198,Tryz.ntmps198
 go_wp2_with fail
 refine HL.o.mono ?_
 rintro e w1 ⟨rfl,rfl⟩
 go_wp2_with fail
 refine(HP.o _).mono ?_
 rintro e w1 ⟨rfl,rfl⟩
 go_wp2_with fail
 go_end0
 exact⟨rfl,rfl⟩
theorem l_r (M L:Nat) (v:Value) (xs:List PX) (W:World) (hx:jJ W M L v xs) (hn:xs.length <= 100000000):
 Calls Tryz.prog 198 #[v, .func (.func 199) #[] #[]] W (n_u W M L v xs):=by
 rcases hx.open with⟨rfl,rfl⟩ | ⟨b,cap,tl,rfl,hMb,hA,hcl,hcm⟩
 . exact(l_q _ W).mono fun e w' hh=>⟨hh.1, [],List.Perm.refl _,List.Pairwise.nil,by rw [hh.2];exact jJ.nil _ _ _,by rw [hh.2];exact World.grownBy.refl _ _⟩
 . have hq0:∀x∈xs,PxQ W (fun k=>L <= k/\k≠b) x:=fun x hx'=>A8 (hx.all x hx') fun k hk=>⟨hk.1,fun e=>hk.2 (by rw [e];rfl)⟩
   let α :={x:PX // PxQ W (fun k=>L <= k/\k≠b) x}
   have instI:Inhabited α :=⟨⟨([],none,0),RowQ.empty _ _ _⟩⟩
   let enc: α ->Value:=fun x=>D5 x.1
   let d:Array α :=(xs.attachWith _ hq0).toArray
   have hdl:d.toList.map (·.1)=xs:=List.attachWith_map_subtype_val hq0
   have hds:d.size=xs.length:=List.length_attachWith (H:=hq0)
   have hde:d.toList.map enc=xs.map D5:=by
    rw [<- hdl,List.map_map]
    congr 1
   have hH:Holds enc W b 0 d:=by
    intro j hj
    have hj':j < xs.length:=by omega
    refine⟨?_,Lib.frozen_of_heap hA _⟩
    rw [Nat.zero_add,tY hA j hj',getElem!_pos d j hj]
    have h1:(d.toList.map (·.1))[j]'(by simpa using hj)=xs[j]:=by simp only [hdl]
    rw [List.getElem_map]at h1
    show some (D5 xs[j])=some (D5 (d[j]).1)
    rw [<- h1];simp
   have hcmp:CmpLays1 Tryz.prog 199 #[] enc (fun x y=>nZ x.1.1 y.1.1) b 0 d.size W:=by
    intro m os dk hs x y
    have hg:=a_k enc W b 0 m dk os
    have hxq:=PxQ.grown x.2 hg
    have hyq:=PxQ.grown y.2 hg
    obtain⟨⟨x0,xa,xc⟩,hx2⟩:=x
    obtain⟨⟨y0,ya,yc⟩,hy2⟩:=y
    have h:=j_u x0 y0 xa ya xc yc _ (sortWorld enc W b 0 m dk os) hxq.row hyq.row
    refine h.mono fun e w' hh=>⟨hh.1,0, #[], ?_⟩
    rw [hh.2,grow_empty];rfl
   have hS:=Any.slices_SortFunc Tryz.sortL enc (fun _=>rfl) (fun x y=>nZ x.1.1 y.1.1) (j_y fun x: α =>x.1.1) 199 #[] b 0 cap d W j_t hcmp hH hA.lt (by omega)
   rw [hds]at hS
   refine Calls.mono (f:=198) hS fun e w' hh=> ?_
   obtain⟨rfl,d',n,os,⟨hps, -,hpp⟩,hs,rfl⟩:=hh
   have hperm:d'.toList.Perm d.toList:=by
    have e1:(d'.extract 0 xs.length).toList=d'.toList:=by
     rw [Array.extract_eq_self_of_le (by omega)]
    have e2:(d.extract 0 xs.length).toList=d.toList:=by
     rw [Array.extract_eq_self_of_le (by omega)]
    rw [e1,e2]at hpp
    exact hpp
   have hg:=a_k enc W b 0 n d' os
   have hpm:(d'.toList.map (·.1)).Perm xs:=by have:=hperm.map (fun x: α =>x.1);rwa [hdl]at this
   have hlen:(d'.toList.map (·.1)).length=xs.length:=hpm.length_eq
   refine⟨rfl,d'.toList.map (·.1),hpm, ?_, ?_,hg⟩
   . show h_D ((d'.toList.map (·.1)).map (·.1))
     rw [List.map_map,h_D,List.pairwise_map,List.pairwise_iff_getElem]
     intro i j hi hj hij
     have h:=hs i j (Nat.zero_le _) hij (by simpa [hps,hds]using hj)
     unfold ltOf at h
     simp only [decide_eq_false_iff_not]at h
     rw [getElem!_pos d' i (by simpa using hi),getElem!_pos d' j (by simpa using hj)]at h
     simpa using h
   . rw [<- hlen]
     have h:=e_7 enc W b n d' os (xs.map D5) tl 36 hA (by simp [hps,hds])
     have h2:At (sortWorld enc W b 0 n d' os) b ((d'.toList.map (·.1)).map D5 ++ tl) 36:=by rw [List.map_map];exact h
     exact jJ.shut hMb h2 (by omega) hcm fun x hx'=>(hq0 x (hpm.subset hx')).grown hg
abbrev tZ (l:List (List Int)):Prop:=l.Pairwise fun p q=>nZ p q < 0
def a_R (p:List Int):List (List Int) ->List (List Int)
 | []=> [p]
 | q::l=>if nZ p q < 0 then p::q::l else if p=q then q::l else q::a_R p l
def a_l (l:List (List Int)):List (List Int):=l.foldr a_R []
theorem c_5 {p x:List Int}:∀ {l:List (List Int)},x∈a_R p l ↔ x=p∨x∈l
 | []=>by simp [a_R]
 | q ::l=>by
   unfold a_R
   split
   . simp
   split
   . rename_i h;subst h;simp
   . rw [List.mem_cons,c_5,List.mem_cons]
     constructor
     . rintro (h | h | h)
       . exact .inr (.inl h)
       . exact .inl h
       . exact .inr (.inr h)
     . rintro (h | h | h)
       . exact .inr (.inl h)
       . exact .inl h
       . exact .inr (.inr h)
theorem b_k {p:List Int}:∀ {l:List (List Int)},tZ l ->tZ (a_R p l)
 | [],_=>by simp [a_R]
 | q ::l,h=>by
   obtain⟨h1,h2⟩:=List.pairwise_cons.1 h
   unfold a_R
   split
   . rename_i hlt
     refine List.pairwise_cons.2 ⟨fun x hx=> ?_,h⟩
     rcases List.mem_cons.1 hx with rfl | hx
     . exact hlt
     . exact C6 hlt (h1 x hx)
   split
   . exact h
   . rename_i hn hne
     refine List.pairwise_cons.2 ⟨fun x hx=> ?_,b_k h2⟩
     rcases c_5.1 hx with rfl | hx
     . rcases C7 x q with h | h | h
       . exact absurd h hn
       . exact absurd h hne
       . exact h
     . exact h1 x hx
theorem J3 {x:List Int}:∀ {l:List (List Int)},x∈a_l l ↔ x∈l
 | []=>by simp [a_l]
 | p::l=>by
   show x∈a_R p (a_l l) ↔ _
   rw [c_5,J3,List.mem_cons]
theorem A9:∀l:List (List Int),tZ (a_l l)
 | []=>by simp [a_l]
 | p::l=>b_k (A9 l)
theorem MJ {p:List Int} (h:nZ p p < 0):False:=by rw [KX]at h;omega
theorem EJ:∀ {l l':List (List Int)},tZ l ->tZ l' ->(∀x,x∈l ↔ x∈l') ->l=l'
 | [], [],_,_,_=>rfl
 | [],q::l',_,_,h=>absurd ((h q).2 (by simp)) (by simp)
 | p::l, [],_,_,h=>absurd ((h p).1 (by simp)) (by simp)
 | p ::l,q::l',h1,h2,h=>by
   obtain⟨a1,a2⟩:=List.pairwise_cons.1 h1
   obtain⟨b1,b2⟩:=List.pairwise_cons.1 h2
   have hpq:p=q:=by
    rcases List.mem_cons.1 ((h p).1 (by simp))with e | e
    . exact e
    . rcases List.mem_cons.1 ((h q).2 (by simp))with e' | e'
      . exact e'.symm
      . exact absurd (C6 (b1 p e) (a1 q e')) fun h=>MJ h
   subst hpq
   rw [EJ a2 b2 fun x=> ?_]
   constructor
   . intro hx
     rcases List.mem_cons.1 ((h x).1 (by simp [hx]))with e | e
     . subst e;exact absurd (a1 x hx) fun h=>MJ h
     . exact e
   . intro hx
     rcases List.mem_cons.1 ((h x).2 (by simp [hx]))with e | e
     . subst e;exact absurd (b1 x hx) fun h=>MJ h
     . exact e
theorem l_s {l r:List (List Int)} (h:tZ r) (hm:∀x,x∈r ↔ x∈l):r=a_l l:=
 EJ h (A9 l) fun x=>by rw [hm,J3]
theorem o7 (a b:List PX):C5 (a ++ b)=C5 a ++ C5 b:=List.map_append
theorem GQ (x:PX):C5 [x]= [x.1]:=rfl
theorem a_m (xs:List PX) (hs:h_D (C5 xs)):∀k,k <= xs.length ->tZ (C5 (pK (fun x y=>decide (x.1=y.1)) xs k))/\(∀p,p∈C5 (pK (fun x y=>decide (x.1=y.1)) xs k) ↔ p∈C5 (xs.take k))/\∀x∈pK (fun x y=>decide (x.1=y.1)) xs k,x∈xs
 | 0,_=>by simp [pK]
 | k + 1, hk =>by
   obtain⟨h1,h2,h3⟩:=a_m xs hs k (by omega)
   have hlt:k < xs.length:=by omega
   have htk:xs.take (k+1)=xs.take k ++ [xs[k]]:=List.take_succ_eq_append_getElem hlt
   have hle:∀p∈C5 (xs.take k),¬nZ xs[k].1 p < 0:=by
    intro p hp
    simp only [List.mem_map]at hp
    obtain⟨x,hx,rfl⟩:=hp
    obtain⟨j,hj,rfl⟩:=List.mem_iff_getElem.1 hx
    have hj':j < k:=by simp at hj;omega
    have h:=List.pairwise_iff_getElem.1 hs j k (by simp;omega) (by simpa using hlt) hj'
    simpa using h
   by_cases hd:k=0∨decide (xs[k].1=(xs[k - 1]'(by omega)).1)=false
   . rw [GK (eq:=fun x y=>decide (x.1=y.1)) hlt hd,htk]
     refine⟨?_,fun p=> ?_,fun x hx=> ?_⟩
     . rw [o7,GQ]
       refine List.pairwise_append.2 ⟨h1,by simp,fun p hp q hq=> ?_⟩
       rw [List.mem_singleton.1 hq]
       have hp':=(h2 p).1 hp
       have hn:=hle p hp'
       rcases C7 p xs[k].1 with h | h | h
       . exact h
       . exfalso
         rcases hd with h0 | hd
         . subst h0;simp at hp'
         . simp only [decide_eq_false_iff_not]at hd
           apply hd
           -- the one ahead lies between
           have hk0:k≠0:=by rintro rfl;simp at hp'
           have hb:=List.pairwise_iff_getElem.1 hs (k - 1) k (by simp;omega) (by simpa using hlt) (by omega)
           simp only [List.getElem_map]at hb
           simp only [List.mem_map]at hp'
           obtain⟨x,hx,rfl⟩:=hp'
           obtain⟨j,hj,rfl⟩:=List.mem_iff_getElem.1 hx
           have hj':j < k:=by simp at hj;omega
           simp only [List.getElem_take]at h hn
           by_cases hjk:j=k - 1
           . subst hjk;exact h.symm
           . have hc:=List.pairwise_iff_getElem.1 hs j (k - 1) (by simp;omega) (by simp;omega) (by omega)
             simp only [List.getElem_map]at hc
             rw [h]at hc
             rcases C7 xs[k].1 (xs[k - 1]'(by omega)).1 with h' | h' | h'
             . exact absurd h' hb
             . exact h'
             . exact absurd h' hc
       . exact absurd h hn
     . rw [o7,o7,List.mem_append,List.mem_append,h2]
     . rcases List.mem_append.1 hx with hx | hx
       . exact h3 x hx
       . simp only [List.mem_singleton]at hx;subst hx;exact List.getElem_mem hlt
   . have hk0:0 < k:=by omega
     have he:decide (xs[k].1=(xs[k - 1]'(by omega)).1)=true:=by
      cases h:decide (xs[k].1=(xs[k - 1]'(by omega)).1)with
      | true=>rfl
      | false=>exact absurd (.inr h) hd
     rw [M9 (eq:=fun x y=>decide (x.1=y.1)) hlt hk0 he,htk]
     refine⟨h1,fun p=> ?_,h3⟩
     rw [h2,o7,GQ,List.mem_append]
     constructor
     . exact .inl
     . rintro (h | h)
       . exact h
       . rw [List.mem_singleton.1 h]
         rw [of_decide_eq_true he]
         refine List.mem_map.2 ⟨xs[k - 1]'(by omega), ?_,rfl⟩
         exact List.mem_iff_getElem.2 ⟨k - 1,by simp;omega,by simp⟩
theorem PxQ.own {w w':World} {r:Option Nat} {L:Nat} {x:PX} (h:PxQ w (fun k=>L <= k/\r≠some k) x) (hg:w.grownBy w' r):PxQ w' (fun k=>L <= k/\r≠some k) x:=
 RowQ.keep h hg.size (fun k hk hlt=>hg.block k hlt (fun e=>hk.2 e.symm)) (fun _ h _=>h)
def InP (W:World) (M L:Nat) (v:Value) (xs:List PX) (l:List (List Int)) (e:Ending) (w':World):Prop:=
 ∃v' ys,e= .returned v'/\jJ w' M L v' ys/\C5 ys=l/\(∀x∈ys,x∈xs)/\(∀k,v'.ownBlock=some k ->v.ownBlock=some k)/\W.grownBy w' v.ownBlock
theorem n_v (M L:Nat) (v:Value) (xs:List PX) (W:World) (hx:jJ W M L v xs) (hn:xs.length <= 100000000):Calls Tryz.prog 145 #[v] W (InP W M L v xs (a_l (C5 xs))):=by
 have HS:=a6 (l_r M L v xs W hx hn)
 have HC:=a6 (fun(w1:World) (ys:List PX) (hp:ys.Perm xs) (hy:jJ w1 M L v ys)=>m_N 17 (fun x y=>decide (x.1=y.1)) M L v ys w1 i_b hy (by rw [hp.length_eq];exact hn) fun x hx' y hy' W' hg=>by
  obtain⟨x0,xa,xc⟩:=x
  obtain⟨y0,ya,yc⟩:=y
  exact(a_i x0 y0 xa ya xc yc _ W' (PxQ.own (hy.all _ hx') hg).row (PxQ.own (hy.all _ hy') hg).row).mono fun e w' hh=>⟨hh.1,hh.2.below _⟩)
 obtain⟨a,c,rfl⟩:=hx.form
 clear hx
 go_enter Tryz.func145,Tryz.ntmps145
 go_wp2_with fail
 refine HS.o.mono ?_
 rintro e w1 ⟨rfl,ys,hp,hs,hy,hg⟩
 have HC1:=a6 (HC.o w1 ys hp hy)
 have Hp:=a6 hp;have Hs:=a6 hs;have Hg:=a6 hg
 clear HS HC hp hs hy hg
 go_wp2_with fail
 refine HC1.o.mono ?_
 rintro e w2 ⟨v',rfl,hz,hk,hg⟩
 obtain⟨a',c',hv'⟩:=hz.form
 have Hz:=a6 hz;have Hk:=a6 hk;have Hg2:=a6 hg
 have Hv:=a6 hv'
 clear HC1 hz hk hg hv'
 go_wp2_with fail
 go_ret
 obtain⟨h1,h2,h3⟩:=a_m ys Hs.o ys.length (a8)
 rw [List.take_length]at h2
 refine⟨v',_,rfl,Hz.o, ?_,fun x hx=>Hp.o.subset (h3 x hx),Hk.o,Hg.o.trans Hg2.o⟩
 exact l_s h1 fun x=>by rw [h2];exact(Hp.o.map (·.1)).mem_iff
def jV (n:aK) (p:List Int):Bool:=match kK n p with
 | some k=> !aZ k
 | none=>false
theorem i_d:∀args w,(callFunc 146 args).run Tryz.prog w= .ok (.enter 146 args) w:=by intro args w;kernel_rfl
theorem l_t (n:aK) (c0 c1 c2 c3:Value) (N:Nat) (p:List Int) (pa:Option Addr) (pc:Nat) (W:World) (hbig:n.wt <= 100000000) (hv:bY W W.heap.size n (.agg #[c0,c1,c2,c3])) (hN:At W N [c0,c1,c2,c3] 35) (hp:RowA W W.heap.size 1 pa p.length pc (p.map (Value.int .i64))):
 Calls Tryz.prog 146 #[.slice pa p.length pc, .pointer (some ⟨N,0,none⟩)] W fun e w'=>e= .returned (.bool (!jV n p))/\Below W.heap.size W w':=by
 have HG:=a6 (e_L n p _ pa pc W hbig hv hp)
 obtain⟨⟨x0,x1,x2,x3⟩, -,xl⟩:=hN.f4
 unfold jV
 cases hat:kK n p with
 | none=>
   rw [hat]at HG
   clear hv hN hp hat
   go_enter Tryz.func146,Tryz.ntmps146
   go_wp2_with fail
   refine HG.o.mono ?_
   rintro e w1 ⟨rfl,hbel⟩
   have Hb:=a6 hbel
   clear hbel HG x0 x1 x2 x3 xl
   go_wp2_with fail
   go_ret
   exact⟨rfl,Hb.o.trans ((aX w1 _).mono Hb.o.size)⟩
 | some k=>
   rw [hat]at HG
   clear hv hN hp hat
   go_enter Tryz.func146,Tryz.ntmps146
   go_wp2_with fail
   refine HG.o.mono ?_
   rintro e w1 ⟨cs,rfl,hq,hbel⟩
   obtain⟨l,ps,t,ks⟩:=k
   have hq':=NodeQ.node _ _ hq
   unfold dJ at hq'
   obtain⟨ap,cp,at_,ct,ak,ck,css,rfl, -⟩:=hq'
   have Hb:=a6 hbel
   clear hbel HG x0 x1 x2 x3 xl hq
   go_wp2_with fail
   go_ret
   exact⟨b7 (by simp [aZ]),Hb.o.trans ((aX w1 _).mono Hb.o.size)⟩
section
variable {tb ob eb cb B MX M : Nat} {caps : Array Value} {want : aK -> Bool}
theorem j_z (hcb:∀args w,(callFunc cb args).run Tryz.prog w= .ok (.enter cb args) w) (hA:j_w B cb caps want MX) (hBo:B <= ob) (hBM:B <= M) (m:Nat):
 ∀ (n:aK) (v:Value) (p:List Int) (pa:Option Addr) (pc:Nat) (l:List (List Int)) (ov:Value) (cs:List Value) (W:World),n.wt <= m ->n.wt <= MX ->l.length+n.wt <= 1000000000 ->p.length+n.wt <= 100000000 ->bY W B n v ->M <= W.heap.size ->
   pX W tb ob eb cb caps M l ov cs ->RowQ W (fun b=>M <= b/\ov.ownBlock≠some b) 1 pa p.length pc (p.map (Value.int .i64)) ->
   Calls Tryz.prog 204 #[v, .slice pa p.length pc, .pointer (some ⟨tb,0,none⟩), .pointer (some ⟨ob,0,none⟩), .pointer (some ⟨eb,0,none⟩)] W (j_x tb ob eb cb caps M ov W (l ++ qX want n p)):=by
 induction m with
 | zero=>intro n v p pa pc l ov cs W hm;have:=G5 n;omega
 | succ m ih=>
   intro n v p pa pc l ov cs W hm hMX hl hpn hv hM hbx hrow
   have IH:=a6 ih
   have hv0:=hv
   obtain⟨lf,ps,t,ks⟩:=n
   obtain⟨ap,cp,at_,ct,ak,ck,css,rfl, -, -,hk,hc⟩:=hv0.open
   have hwt:1+gX ps+t.length+dX ks=(aK.mk lf ps t ks).wt:=rfl
   have hb0:=(Below.refl W.heap.size W).alloc (a8) (Obj.cells #[.bool lf, .slice ap ps.length cp, .slice at_ t.length ct, .slice ak ks.length ck] 35)
   have HW:=a6 (hA (.mk lf ps t ks) _ _ hMX (hv.keep (hb0.mono (aJ hBM hM)) (a8)) (by simp;omega))
   obtain⟨R,hR⟩:∃R,R=l ++ qX want (.mk lf ps t ks) p:=⟨_,rfl⟩
   rw [<- hR]
   obtain⟨b,hb⟩:∃b,b=want (.mk lf ps t ks):=⟨_,rfl⟩
   rw [<- hb]at HW
   have HR:Hid ((l ++ if b=true then [p] else []) ++ qY want ks 0 p=R):=by
    show _=R
    rw [hR,hb,qX,List.append_assoc]
   have hw3:∀q∈ks,q.wt <= m/\q.wt <= MX/\q.wt <= dX ks:=fun q hq=>by have:=iK hq;omega
   have hpl:p.length+1 <= 100000000:=by omega
   have hll:l.length+1+dX ks <= 1000000000:=by omega
   have hpw:p.length+1+dX ks <= 100000000:=by omega
   have hkl:ks.length <= 100000000:=by have:=fX ks;omega
   have hA0:=b6.fresh W (.bool lf) (.slice ap ps.length cp) (.slice at_ t.length ct) (.slice ak ks.length ck)
   have Hw3:=a6 hw3;have Hb0:=a6 hb0;have Hbx:=a6 hbx;have Hrow:=a6 hrow;have Hk:=a6 hk;have Hc:=a6 hc;have HA0:=a6 hA0
   obtain⟨e1,e2,e3,e4,l1,l2,l3⟩:=hbx.cells
   clear hw3 hb0 hbx hrow hk hc hA0 hv hv0 hwt hm hMX hl hpn hR hb ih hA e2 e3 e4
   go_enter Tryz.func204,Tryz.ntmps204
   go_wp2_with fail
   refine HW.o.mono ?_
   rintro e w1 ⟨rfl,hbel⟩
   have hbel':Below W.heap.size W w1:=Hb0.o.trans (hbel.mono Hb0.o.size)
   have HA1:=a6 (HA0.o.keep (hbel.mono (by simp)))
   have Hbx1:=a6 (Hbx.o.below hbel')
   have Hrow1:=a6 (Hrow.o.keep (w':=w1) hbel'.size (fun b _ hlt=>hbel'.block b hlt) (fun _ hb _=>hb))
   have HG1:=a6 ((F8.refl ob ov W).then hbel')
   have hB1:Below B W w1:=hbel'.mono (aJ hBM hM)
   have Hk1:=a6 (Hk.o.keep hB1 (a8));have Hc1:=a6 (dQ.keep hB1 (a8) ks css Hc.o)
   have hM1:M <= w1.heap.size:=aJ hM hbel'.size
   have hN1:W.heap.size < w1.heap.size:=HA1.o.facts.2.2.2.2.2
   have hnN:ov.ownBlock≠some W.heap.size:=Hbx.o.notOwn (.inr (a8))
   obtain⟨y1,y2,y3,y4,m1,m2,m3⟩:=Hbx1.o.cells
   clear hbel hbel' HW Hb0 HA0 Hbx Hrow Hk Hc hB1 e1 l1 l2 l3
   go_upto_if 11 with fail
   go_cut [] (fun wx=>∃l1 ov1 cs1,l1=(l ++ if b=true then [p] else [])/\pX wx tb ob eb cb caps M l1 ov1 cs1/\F8 ob ov ov1 w1 wx)
   case first=>
    cases b with
    | false=>
      go_wp2_with fail
      go_meet
      case rel=>exact⟨l,ov,cs,by simp,Hbx1.o,F8.refl _ _ _⟩
    | true =>
      go_wp2_with fail
      go_region_law (first
       | (refine b9 rfl 119 _ _ rfl e_T [Value.slice pa p.length pc] ?_ _ (qV w1.heap.size p.length pa pc _ _ (Hrow1.o.row.keep ?_ (a8)) ?_ (by omega)) ?_
          . go_simp
          . exact(a7).drew
          . exact a8
          rintro e w2 ⟨v2,rfl,hown,hbel⟩
          obtain⟨qa,qc,rfl,hq⟩:=oK hown (tQ .i64 p)
          refine⟨_,rfl, ?_⟩
          have Hbel2:=a6 (((Below.refl w1.heap.size w1).drew).trans hbel)
          have Hq:=a6 hq
          obtain⟨z1,z2,z3,z4,n1,n2,n3⟩:=(Hbx1.o.below Hbel2.o).cells
          have Hown2:=a6 (Hbx1.o.below Hbel2.o).own
          clear hbel hown hq)
       | (refine KJ rfl _ _ 47 rfl M 36 (.slice none 0 0) 1 24 Tryz.underlying47 a_j rfl (by decide) ov l.length cs ?_ (Hown2.o.alloc _) ⟨w2.heap.size,0,none⟩ 1 1 (w2.heap.size+1) [.slice qa p.length qc] ?_ (BJ _ _ _ _ rfl (by omega)) ?_ ?_ ?_ ?_
          . go_simp
          . go_simp
          . unfold maxLen;omega
          . omega
          . have:=Hbel2.o.size;simp;omega
          intro v' w3 hown' hgrow hwhere
          obtain⟨va,vc,rfl, -⟩:=cK hown' (by intro u hu;rcases List.mem_append.1 hu with h | h;exact Hbx1.o.rows.one u h;simp at h;subst h;rfl)
          have Hpu:=a6 (Hbx1.o.push hM1 Hbel2.o Hq.o hgrow hown' hwhere)
          have ho3:w3.heap[ob]? =some (Obj.cells #[ov] 47 (0,0)):=by
           rw [hgrow.block ob (by simp;omega) (fun e=>Hbx1.o.notOwn (.inl Hbx1.o.lt.2.1) e.symm),Lib.alloc_old _ _ _ n2]
           exact(Hbx1.o.below Hbel2.o).o
          have q3:w3.cell? ⟨ob,0,none⟩=some ov:=by rw [Lib.cell_of_heap ho3];rfl
          have q4:w3.frozen? ⟨ob,0,none⟩=false:=Lib.frozen_of_heap ho3 _
          have q5:ob < w3.heap.size:=(Array.getElem?_eq_some_iff.1 ho3).1
          clear hown' hgrow hwhere ho3))
      all_goals
       go_wp2_with fail
       go_meet
       case rel=>exact⟨_,_,_,by simp,Hpu.o.1,Hpu.o.2⟩
   case rest=>
    obtain⟨l1,ov1,cs1,rfl,hbx,hgr⟩:=hcut
    have HG2:=a6 (HG1.o.trans hgr)
    have HA2:=a6 (show b6 wc W.heap.size _ _ _ _ by unfold b6;rw [hgr.block _ hN1 (by have:=Hbx1.o.lt.2.1;omega) hnN];exact HA1.o)
    have Hrow2:=a6 (Hrow1.o.stay (hgr.stay Hbx1.o.lt.2.1))
    have hB2:Below B w1 wc:=hgr.below hBo (by omega) (fun k hk=>by have:=(Hbx1.o.own.lt k hk).1;omega)
    have Hk2:=a6 (Hk1.o.keep hB2 (a8));have Hc2:=a6 (dQ.keep hB2 (a8) ks css Hc1.o)
    have hnN2:ov1.ownBlock≠some W.heap.size:=by
     rcases hgr.where_ with h | h
     . rw [h];exact hnN
     . intro e;have:=h _ e;omega
    have Hbx2:=a6 hbx
    have hM2:M <= wc.heap.size:=aJ hM1 hgr.size
    have hl2:(l ++ if b=true then [p] else []).length+dX ks <= 1000000000:=by rw [List.length_append];split <;> simp <;> omega
    obtain⟨z0,z1,z2,z3, -,zl⟩:=HA2.o.facts
    generalize (l ++ if b=true then [p] else [])=l1 at HR hl2 Hbx2
    clear hbx hgr hB2 HG1 HA1 Hrow1 Hk1 Hc1 Hbx1 y1 y2 y3 y4 m1 m2 m3 hnN
    go_wp2_with fail
    go_loopg [20] ks.length (fun g i wr=>∃ (k:Nat) (l2:List (List Int)) (ov2:Value) (cs2:List Value),i= .int .i64 k/\k+g=ks.length/\l2 ++ qY want (ks.drop k) k p=R/\l2.length+dX (ks.drop k) <= 1000000000/\pX wr tb ob eb cb caps M l2 ov2 cs2/\F8 ob ov1 ov2 wc wr)
    case atStart=>exact⟨0,l1,ov1,cs1,rfl,by omega,HR.o,hl2,Hbx2.o,F8.refl _ _ _⟩
    case round=>
     obtain⟨k,l2,ov2,cs2,rfl,hg,hke,hl3,hbx,hgr⟩:=hrel
     have Hke:=a6 hke
     have hB3:Below B wc wr:=hgr.below hBo (by omega) (fun k hk=>by have:=(Hbx2.o.own.lt k hk).1;omega)
     have hk3:=Hk2.o.keep hB3 (a8);have hc3:=dQ.keep hB3 (a8) ks css Hc2.o
     have hM3:M <= wr.heap.size:=aJ hM2 hgr.size
     have Hrow3:=a6 (Hrow2.o.stay (hgr.stay Hbx2.o.lt.2.1))
     have HG3:=a6 hgr;have Hbx3:=a6 hbx
     clear hke hgr hB3
     by_cases hlt:k < ks.length
     . have hlti:(k:Int) < ks.length:=by omega
       have hmem:=Hw3.o _ (List.getElem_mem hlt)
       have hdr:dX (ks.drop k)=ks[k].wt+dX (ks.drop (k+1)):=by
        conv=>lhs;rw [List.drop_eq_getElem_cons hlt]
        simp only [dX]
       rw [hdr]at hl3
       have Hst:Hid ((l2 ++ qX want ks[k] (p ++ [(k:Int)])) ++ qY want (ks.drop (k+1)) (k+1) p=R):=by
        show _=R
        rw [List.append_assoc, <- e_U hlt];exact Hke.o
       have hpwl:=C8 want ks[k] (p ++ [(k:Int)])
       obtain⟨kb,ko,lk,a1,n1,c1,a2,n2,c2,a3,n3,c3,rfl,hkb,hkn,g0,g1,g2,g3⟩:=hk3.kid_at hc3 k hlt
       generalize ks[k]=q at hmem Hst hpwl hl3 hkn
       go_upto_region 6 with fail
       have hb2:=(Below.refl wr.heap.size wr).alloc (a8) (Obj.cells #[.bool lk, .slice a1 n1 c1, .slice a2 n2 c2, .slice a3 n3 c3] 35)
       have hA2:=b6.fresh wr (.bool lk) (.slice a1 n1 c1) (.slice a2 n2 c2) (.slice a3 n3 c3)
       obtain⟨w2,hw2⟩:∃w2,w2=wr.alloc (Obj.cells #[.bool lk, .slice a1 n1 c1, .slice a2 n2 c2, .slice a3 n3 c3] 35):=⟨_,rfl⟩
       rw [<- hw2]at hb2 hA2⊢
       clear hw2
       have Hbx4:=a6 (Hbx3.o.below hb2)
       have Hrow4:=a6 (Hrow3.o.keep (w':=w2) (ok':=fun b=>M <= b/\ov2.ownBlock≠some b) hb2.size (fun b _ hlt=>hb2.block b hlt) (fun _ hb _=>hb))
       have Hkn:=a6 (dJ.keep (hb2.mono (aJ hBM hM3)) (a8) _ _ hkn)
       have hM4:M <= w2.heap.size:=aJ hM3 hb2.size
       have hle:p.length <= pc:=Hrow3.o.le
       obtain⟨x0,x1,x2,x3, -,xl⟩:=hA2.facts
       obtain⟨y1,y2,y3,y4,m1,m2,m3⟩:=Hbx4.o.cells
       have Hb2:=a6 hb2;have HA4:=a6 hA2
       clear hb2 hA2 hkn hk3 hc3 g0 g1 g2 g3 Hrow3 Hw3 Hke hdr
       go_region_law (first
        | (refine i_0 rfl _ _ 36 rfl 3 (.int .i64 0) 1 8 Tryz.underlying36 F7 rfl (by decide) pa p.length w2.heap.size (p.map (Value.int .i64)) ?_ (Hrow4.o.row.full.keep ?_ (a8)) ⟨w2.heap.size,0,none⟩ 1 1 (w2.heap.size+1) [.int .i64 k] ?_ ((BJ w2 _ _ _ rfl (by omega)).keep (a7).drew (a8)) (by decide) ?_ ?_ ?_
           . go_simp
           . exact((a7).alloc (a8) _).drew
           . go_simp
           . unfold maxLen;omega
           . omega
           intro v' w3 hown hbel
           have hz:p.map (Value.int .i64) ++ [.int .i64 (k:Int)]=(p ++ [(k:Int)]).map (Value.int .i64):=by simp
           rw [hz]at hown
           obtain⟨va,vc,rfl,hq⟩:=oK hown (tQ .i64 _)
           have hb3:Below w2.heap.size w2 w3:=(((a7).alloc (a8) _).drew).trans (hbel.mono (by simp))
           have hA3:=HA4.o.keep (hb3.mono (by omega))
           have hbx5:=Hbx4.o.below hb3
           have hq2:RowQ w3 (fun b=>M <= b/\ov2.ownBlock≠some b) 1 va (p ++ [(k:Int)]).length vc ((p ++ [(k:Int)]).map (Value.int .i64)):=by
            have:=hq.keep (ok':=fun b=>M <= b/\ov2.ownBlock≠some b) (a8) (fun _ _ _=>rfl) (fun b hb _=>by
             have hb':w2.heap.size+1 <= b:=by simpa using hb
             exact⟨by omega,Hbx4.o.notOwn (.inr (by omega))⟩)
            simpa using this
           have HC:=IH.o q (.agg #[.bool lk, .slice a1 n1 c1, .slice a2 n2 c2, .slice a3 n3 c3]) (p ++ [(k:Int)]) va vc l2 ov2 cs2 w3 hmem.1 hmem.2.1 (by omega) (by simp;omega) ⟨_,rfl,dJ.keep (hb3.mono (by omega)) (a8) _ _ Hkn.o⟩ (aJ hM4 hb3.size) hbx5 hq2
           have HC2:=a6 (show Calls Tryz.prog 204 (([.agg #[.bool lk, .slice a1 n1 c1, .slice a2 n2 c2, .slice a3 n3 c3], .slice va (p.length+1) vc]:List Value).toArray ++ #[.pointer (some ⟨tb,0,none⟩), .pointer (some ⟨ob,0,none⟩), .pointer (some ⟨eb,0,none⟩)]) w3 (j_x tb ob eb cb caps M ov2 w3 (l2 ++ qX want q (p ++ [(k:Int)])))by simpa using HC)
           have HG5:=a6 ((HG3.o.then Hb2.o).then hb3)
           obtain⟨t0,t1,t2,t3, -,tl⟩:=hA3.facts
           obtain⟨r1,r2,r3,r4,s1,s2,s3⟩:=hbx5.cells
           clear hown hbel hz hq hb3 hA3 hbx5 hq2 HC)
        | (refine M8 rfl 204 _ #[.pointer (some ⟨tb,0,none⟩), .pointer (some ⟨ob,0,none⟩), .pointer (some ⟨eb,0,none⟩)] _ _ rfl ?_ g_g [.agg #[.bool lk, .slice a1 n1 c1, .slice a2 n2 c2, .slice a3 n3 c3], .slice va (p.length+1) vc] ?_ _ HC2.o ?_
           . go_simp
           . go_simp
           rintro e w4 ⟨rfl,ov3,cs3,hbx6,hgr6⟩
           refine⟨_,rfl, ?_⟩
           have Hbx6:=a6 hbx6
           have HG6:=a6 (HG5.o.trans hgr6)
           clear hbx6 hgr6))
       all_goals
        go_wp2_with fail
        go_roundg (gk - 1)
        case measure=>omega
        case rel=>exact⟨k+1,_,ov3,cs3,by go_num,by omega,Hst.o,by rw [List.length_append];omega,Hbx6.o,HG6.o⟩
     . obtain rfl:k=ks.length:=by omega
       have HR2:Hid (l2=R):=by
        show l2=R
        rw [<- Hke.o,List.drop_length,qY,List.append_nil]
       clear Hke hk3 hc3
       go_wp2_with fail
       go_end0
       refine⟨rfl,ov2,cs2, ?_,HG2.o.trans HG3.o⟩
       rw [<- HR2.o]
       exact Hbx3.o
end
def m_x (W:World) (L:List (List Int)) (e:Ending) (w':World):Prop:=
 ∃v cs,e= .returned v/\w'.ownsRow W.heap.size 36 1 v L.length cs/\oY w' (fun b=>W.heap.size <= b/\v.ownBlock≠some b) L cs/\Below W.heap.size W w'
theorem nK {w:World} {M M' e sz n:Nat} {v:Value} {cs:List Value} (h:w.ownsRow M e sz v n cs) (hM:M' <= M):w.ownsRow M' e sz v n cs:=by
 obtain⟨hl,h2⟩:=h
 exact⟨hl,h2.imp id fun⟨g,cap,cur,hv,hb,hr⟩=>⟨g,cap,cur,hv,by omega,hr⟩⟩
theorem j_A {cb MX:Nat} {caps:Array Value} {want:aK ->Bool} (hcb:∀args w,(callFunc cb args).run Tryz.prog w= .ok (.enter cb args) w) (n:aK) (v:Value) (W:World) (hA:j_w W.heap.size cb caps want MX) (hMX:n.wt <= MX) (hw:n.wt <= 100000000) (hv:bY W W.heap.size n v):
 Calls Tryz.prog 156 #[v, .func (.func cb) #[] caps] W (m_x W (qX want n [])):=by
 have hv0:=hv
 obtain⟨lf,ps,t,ks⟩:=n
 obtain⟨ap,cp,at_,ct,ak,ck,css,rfl, -, -, -, -⟩:=hv0.open
 generalize aK.mk lf ps t ks=n at hv hMX hw⊢
 obtain⟨tb,htb⟩:∃tb,tb=W.heap.size+1:=⟨_,rfl⟩
 obtain⟨ob,hob⟩:∃ob,ob=tb+1:=⟨_,rfl⟩
 obtain⟨eb,heb⟩:∃eb,eb=ob+1:=⟨_,rfl⟩
 obtain⟨w0,hw0⟩:∃w0,w0=(((W.alloc (Obj.cells #[.bool lf, .slice ap ps.length cp, .slice at_ t.length ct, .slice ak ks.length ck] 35)).alloc (Obj.cells #[.func (.func cb) #[] caps] 94)).alloc (Obj.cells #[.slice none 0 0] 47)).alloc (Obj.cells #[.nilFunc] 231):=⟨_,rfl⟩
 have hb0:Below W.heap.size W w0:=by
  rw [hw0]
  exact((((a7).alloc (a8) _).alloc (by simp) _).alloc (by simp;omega) _).alloc (by simp;omega) _
 have hs0:w0.heap.size=W.heap.size+4:=by rw [hw0];simp
 have h0:b6 w0 W.heap.size (.bool lf) (.slice ap ps.length cp) (.slice at_ t.length ct) (.slice ak ks.length ck):=by
  rw [hw0]
  exact(((b6.fresh W _ _ _ _).alloc _).alloc _).alloc _
 have ht:w0.heap[tb]? =some (Obj.cells #[.func (.func cb) #[] caps] 94 (0,0)):=by
  rw [hw0,Lib.alloc_old _ _ _ (by simp;omega),Lib.alloc_old _ _ _ (by simp;omega),htb]
  simpa using heap_alloc_new (W.alloc (Obj.cells #[.bool lf, .slice ap ps.length cp, .slice at_ t.length ct, .slice ak ks.length ck] 35)) (Obj.cells #[.func (.func cb) #[] caps] 94)
 have ho:w0.heap[ob]? =some (Obj.cells #[.slice none 0 0] 47 (0,0)):=by
  rw [hw0,Lib.alloc_old _ _ _ (by simp;omega),hob,htb]
  simpa using heap_alloc_new ((W.alloc (Obj.cells #[.bool lf, .slice ap ps.length cp, .slice at_ t.length ct, .slice ak ks.length ck] 35)).alloc (Obj.cells #[.func (.func cb) #[] caps] 94)) (Obj.cells #[.slice none 0 0] 47)
 have he:w0.heap[eb]? =some (Obj.cells #[.nilFunc] 231 (0,0)):=by
  rw [hw0,heb,hob,htb]
  simpa using heap_alloc_new (((W.alloc (Obj.cells #[.bool lf, .slice ap ps.length cp, .slice at_ t.length ct, .slice ak ks.length ck] 35)).alloc (Obj.cells #[.func (.func cb) #[] caps] 94)).alloc (Obj.cells #[.slice none 0 0] 47)) (Obj.cells #[.nilFunc] 231)
 have c0:w0.cell? ⟨eb,0,none⟩=some .nilFunc:=by rw [cell_of_row _ _ _ _ _ _ he];rfl
 have c1:w0.frozen? ⟨eb,0,none⟩=false:=Lib.frozen_of_heap he _
 obtain⟨w1,hw1⟩:∃w1,w1=w0.setCell ⟨eb,0,none⟩ (.func (.func 204) #[] #[.pointer (some ⟨tb,0,none⟩), .pointer (some ⟨ob,0,none⟩), .pointer (some ⟨eb,0,none⟩)]):=⟨_,rfl⟩
 have hs1:w1.heap.size=W.heap.size+4:=by rw [hw1, <- hs0];simp [World.setCell]
 have hb1:Below W.heap.size W w1:=by rw [hw1];exact hb0.setCell (p:=⟨eb,0,none⟩) (by show W.heap.size <= eb;omega) _
 have h1:b6 w1 W.heap.size (.bool lf) (.slice ap ps.length cp) (.slice at_ t.length ct) (.slice ak ks.length ck):=by rw [hw1];exact h0.set (by omega)
 have hbx:pX w1 tb ob eb cb caps (W.heap.size+4) [] (.slice none 0 0) []:=by
  refine⟨?_, ?_, ?_,World.ownsRow_nil _ _ _ _,rfl,by omega⟩
  . rw [hw1,Below.heap_setCell _ _ _ _ (by show tb≠eb;omega)];exact ht
  . rw [hw1];exact Lib.heap_setCell_same (i:=0) he _
  . rw [hw1,Below.heap_setCell _ _ _ _ (by show ob≠eb;omega)];exact ho
 have HC:=a6 (j_z hcb hA (ob:=ob) (M:=W.heap.size+4) (by omega) (by omega) n.wt n (.agg #[.bool lf, .slice ap ps.length cp, .slice at_ t.length ct, .slice ak ks.length ck]) [] none 0 [] (.slice none 0 0) [] w1 (a8) hMX (by simp;omega) (by simp;omega) (hv.keep hb1 (a8)) (by omega) hbx (RowQ.empty _ _ _))
 obtain⟨x0,x1,x2,x3, -,xl⟩:=h1.facts
 obtain⟨y1,y2,y3,y4,m1,m2,m3⟩:=hbx.cells
 have Hb0:=a6 hb1
 have Hbx:=a6 hbx
 have hmf:∀ (fn:Fn) (first cap:Array Value) (w:World),(Instr.makeFunc fn first cap).run Tryz.prog w= .ok (.func fn first cap) w:=fun _ _ _ _=>rfl
 have hst:=fun(W:World) (a:Addr) (fn:Fn) (first cap:Array Value) (m:Mode)=>run_store Tryz.prog W a (.func fn first cap) m rfl
 clear hb0 h0 hb1 h1 hbx hv hv0 hA hMX hw ht ho he
 have H1:=a6 htb;have H2:=a6 hob;have H3:=a6 heb;have H4:=a6 hw0;have H5:=a6 hw1
 have hlt:W.heap.size < tb/\tb < ob/\ob < eb:=by omega
 have hcl:W.heap.size <= ob:=by omega
 clear htb hob heb hw0 hw1 hs0
 go_enter Tryz.func156,Tryz.ntmps156
 go_upto_region 3 with fail
 rw [<- H4.o, <- H1.o, <- H2.o, <- H3.o]
 clear H1 H2 H3 H4
 go_upto_region 4 with fail
 rw [<- H5.o]
 clear H5 c0 c1
 go_wp2_with fail
 refine HC.o.mono ?_
 rintro e w1 ⟨rfl,ov,cs,hbx1,hgr⟩
 have Hown:=a6 hbx1.own;have Hrows:=a6 hbx1.rows
 obtain⟨a,c,rfl,hq⟩:=oK hbx1.own hbx1.rows.one
 have Hq:=a6 hq
 obtain⟨z1,z2,z3,z4,n1,n2,n3⟩:=hbx1.cells
 have Hb1:=a6 (Hb0.o.trans (hgr.below (B:=W.heap.size) hcl (by omega) (by simp [Value.ownBlock])))
 clear hbx1 hgr hq HC x0 x1 x2 x3 y1 y2 y3 y4 Hbx hcb
 go_wp2_with fail
 go_ret
 simp only [List.nil_append]at Hown Hrows⊢
 exact⟨_,cs,rfl,nK Hown.o (by omega),Hrows.o.keep (a8) (fun _ _ _=>rfl) (fun b hb _=>⟨by have:=hb.1;omega,hb.2⟩),Hb1.o⟩
theorem j_B:∀args w,(callFunc 157 args).run Tryz.prog w= .ok (.enter 157 args) w:=by intro args w;kernel_rfl
theorem j_C (B M:Nat):j_w B 157 #[] (fun _=>true) M:=by
 intro n v W hM hv hB
 obtain⟨lf,ps,t,ks⟩:=n
 obtain⟨ap,cp,at_,ct,ak,ck,css,rfl, -, -, -, -⟩:=hv.open
 have hb0:=(Below.refl W.heap.size W).alloc (a8) (Obj.cells #[.bool lf, .slice ap ps.length cp, .slice at_ t.length ct, .slice ak ks.length ck] 35)
 clear hv hM
 show Calls Tryz.prog 157 #[.agg #[.bool lf, .slice ap ps.length cp, .slice at_ t.length ct, .slice ak ks.length ck]] W _
 go_enter Tryz.func157,Tryz.ntmps157
 go_wp2_with fail
 go_ret
 exact⟨rfl,hb0⟩
theorem m_P (n:aK) (v:Value) (W:World) (hw:n.wt <= 100000000) (hv:bY W W.heap.size n v):
 Calls Tryz.prog 78 #[v] W (m_x W (qX (fun _=>true) n [])):=by
 have hv0:=hv
 obtain⟨lf,ps,t,ks⟩:=n
 obtain⟨ap,cp,at_,ct,ak,ck,css,rfl, -, -, -, -⟩:=hv0.open
 generalize aK.mk lf ps t ks=n at hv hw⊢
 have hb0:=(Below.refl W.heap.size W).alloc (a8) (Obj.cells #[.bool lf, .slice ap ps.length cp, .slice at_ t.length ct, .slice ak ks.length ck] 35)
 have HC:=a6 (j_A j_B n _ _ (j_C _ n.wt) (a8) hw (hv.keep hb0 hb0.size))
 have Hb0:=a6 hb0
 clear hb0 hv hv0 hw
 go_enter Tryz.func78,Tryz.ntmps78
 go_wp2_with fail
 refine HC.o.mono ?_
 rintro e w1 ⟨u,cs,rfl,hq,hp,hb⟩
 have Hq:=a6 hq;have Hp:=a6 hp;have Hb:=a6 (Hb0.o.trans (hb.mono Hb0.o.size))
 have hs:=Hb0.o.size
 obtain⟨a,c,hu, -⟩:=oK hq hp.one
 subst hu
 clear hq hp hb HC
 go_wp2_with fail
 go_ret
 exact⟨_,cs,rfl,nK Hq.o hs,Hp.o.keep (a8) (fun _ _ _=>rfl) (fun b hb _=>⟨aJ hs hb.1,hb.2⟩),Hb.o⟩
theorem c_6 (xs:List PX) (f:List Int ->Bool):C5 (xs.filter fun x=> !!f x.1)=(C5 xs).filter f:=by
 simp only [Bool.not_not]
 rw [List.filter_map]
 rfl
theorem g_h (n:aK) (v:Value) (B M L:Nat) (vx:Value) (xs:List PX) (W:World) (hbig:n.wt <= 100000000) (hv:bY W B n v) (hB:B <= W.heap.size) (hBM:B <= M) (hx:jJ W M L vx xs) (hn:xs.length <= 100000000):
 Calls Tryz.prog 70 #[v,vx] W (InP W M L vx xs (a_l ((C5 xs).filter (jV n)))):=by
 have hv0:=hv
 obtain⟨lf,ps,t,ks⟩:=n
 obtain⟨ap,cp,at_,ct,ak,ck,css,rfl, -, -, -, -⟩:=hv0.open
 generalize aK.mk lf ps t ks=n at hv hbig⊢
 obtain⟨w0,hw0⟩:∃w0,w0=W.alloc (Obj.cells #[.bool lf, .slice ap ps.length cp, .slice at_ t.length ct, .slice ak ks.length ck] 35):=⟨_,rfl⟩
 have hb0:Below W.heap.size W w0:=by rw [hw0];exact aX _ _
 have hA:At w0 W.heap.size [.bool lf, .slice ap ps.length cp, .slice at_ t.length ct, .slice ak ks.length ck] 35:=by rw [hw0];exact At.fresh W _ _
 have hx0:=hx.below hb0
 have HD:=a6 (j_v 146 #[.pointer (some ⟨W.heap.size,0,none⟩)] (fun x=> !jV n x.1) M L vx xs w0 i_d hx0 hn fun x hx' W' hg=>by
  obtain⟨x0,xa,xc⟩:=x
  have hne:some W.heap.size≠vx.ownBlock:=fun e=>by have:=(hx.own.lt _ e.symm).2;omega
  have hA':At W' W.heap.size [.bool lf, .slice ap ps.length cp, .slice at_ t.length ct, .slice ak ks.length ck] 35:=by
   unfold At;rw [hg.block _ hA.lt hne];exact hA
  have hb':Below B w0 W':=hg.old (aJ hB hb0.size) fun k hk=>aJ hBM (hx0.ge k hk)
  have hb2:Below B W W':=(hb0.mono hB).trans hb'
  exact l_t n _ _ _ _ W.heap.size x0 xa xc W' hbig (hv.keep hb2 (aJ hB hb2.size)) hA' (PxQ.own (hx0.all _ hx') hg).row)
 have HS:=a6 (fun(w1:World) (v':Value) (hz:jJ w1 M L v' (xs.filter fun x=> !(fun x:PX=> !jV n x.1) x))=>n_v M L v' _ w1 hz (aJ (List.length_filter_le _ _) hn))
 obtain⟨fs,hfs⟩:∃fs,fs=xs.filter fun x=> !(fun x:PX=> !jV n x.1) x:=⟨_,rfl⟩
 rw [<- hfs]at HD HS
 have Hfs:=a6 hfs
 have hmf:∀ (fn:Fn) (first cap:Array Value) (w:World),(Instr.makeFunc fn first cap).run Tryz.prog w= .ok (.func fn first cap) w:=fun _ _ _ _=>rfl
 have Hb0:=a6 hb0;have Hw0:=a6 hw0
 obtain⟨a,c,hvx⟩:=hx.form
 subst hvx
 clear hv hv0 hbig hb0 hw0 hA hx hx0 hB hBM hfs
 go_enter Tryz.func70,Tryz.ntmps70
 go_upto_region 1 with fail
 rw [<- Hw0.o]
 clear Hw0
 go_wp2_with fail
 refine HD.o.mono ?_
 rintro e w1 ⟨v',rfl,hz,hk,hg⟩
 have HS1:=a6 (HS.o w1 v' hz)
 obtain⟨a',c',hv'⟩:=hz.form
 subst hv'
 have Hk:=a6 hk;have Hg:=a6 hg
 clear HD HS hz hk hg
 go_wp2_with fail
 refine HS1.o.mono ?_
 rintro e w2 ⟨v2,ys,rfl,hy,hp,hm,hk,hg⟩
 obtain⟨a2,c2,hv2⟩:=hy.form
 subst hv2
 have Hy:=a6 hy;have Hp:=a6 hp;have Hm:=a6 hm;have Hk2:=a6 hk;have Hg2:=a6 hg
 clear HS1 hy hp hm hk hg
 go_wp2_with fail
 go_ret
 refine⟨_,ys,rfl,Hy.o, ?_,fun x hx=>(List.mem_filter.1 (Hfs.o ▸ Hm.o x hx)).1,fun k hk=>Hk.o k (Hk2.o k hk), ?_⟩
 . rw [Hp.o,Hfs.o,c_6]
 . refine (cZ Hb0.o).trans (Hg.o.trans ?_)
   refine⟨Hg2.o.os,Hg2.o.tape,Hg2.o.output,Hg2.o.size,fun k hk hne=>Hg2.o.block k hk fun e=>hne ?_⟩
   rw [Hk.o k e.symm]
end Go.Proofs.YtmadpclcmjahoaaGreatDoor
