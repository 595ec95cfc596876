/- Parts of the proof: 1. -/
import Derived.WalkKit
import Derived.WalkSpells
import Derived.WalkLawsBesides
import Derived.Lib.Hide
import Derived.Laws.AppendOwnNone
import Derived.Lib.AppendZeros
import Derived.Lib.UnsafeStr
import Derived.Laws.BytesArg
import Derived.ChangeSlices
import Derived.ChangeArms
import Derived.Deep.Slices
import Derived.Test.YtmadpclcmjahoaaGreatDoorRows
import Derived.Test.YtmadpclcmjahoaaGreatDoorProg
set_option linter.unusedVariables false
set_option linter.unusedSimpArgs false
set_option maxHeartbeats 8000000
set_option maxRecDepth 100000
namespace Go
theorem a6 {p : Prop} (h : p) : RowKit.Hid p := h
theorem RowKit.Hid.o {p : Prop} (h : RowKit.Hid p) : p := h.out
theorem a7 {B : Nat} {w : World} : RowKit.Below B w w := RowKit.Below.refl B w
theorem a8 {n : Nat} : n ≤ n := Nat.le_refl n
theorem aJ {a b c : Nat} (h : a ≤ b) (k : b ≤ c) : a ≤ c := Nat.le_trans h k
end Go
namespace Go.Redl
open Go.RowKit
theorem fJ {α :Type} {l:List α} {k:Nat} {d: α} (h:k < l.length):l.getD k d=l[k]:=by simp [List.getD,List.getElem?_eq_getElem h]
theorem b7 {a b:Bool} (h:a=b):Ending.returned (.bool a)= .returned (.bool b):=by rw [h]
theorem cY {k:IntKind} {a b:Int} (h:a=b):Ending.returned (.int k a)= .returned (.int k b):=by rw [h]
structure RowA (w:World) (B sz:Nat) (a:Option Addr) (n cap:Nat) (cs:List Value):Prop where
 len:cs.length=n * sz
 le:n <= cap
 max:cap <= maxLen
 one:∀u∈cs,u.oneCell'=true
 nil:a=none ->cap=0
 some_:cs≠ [] ->∃b off,a=some ⟨b,off,none⟩/\b < B/\∀j u,cs[j]? =some u ->w.cell? ⟨b,off+j,none⟩=some u
theorem RowA.keep {w w':World} {B B' sz n cap:Nat} {a:Option Addr} {cs:List Value} (h:RowA w B sz a n cap cs) (hb:Below B w w') (hB:B <= B'):RowA w' B' sz a n cap cs:=by
 refine⟨h.len,h.le,h.max,h.one,h.nil,fun hne=> ?_⟩
 obtain⟨b,off,ha,hlt,hcell⟩:=h.some_ hne
 exact⟨b,off,ha,Nat.lt_of_lt_of_le hlt hB,fun j u hj=>by rw [hb.cell (p:=⟨b,off+j,none⟩) hlt];exact hcell j u hj⟩
theorem RowA.empty (w:World) (B sz:Nat):RowA w B sz none 0 0 []:=⟨by simp,a8,Nat.zero_le _,by simp,fun _=>rfl,fun h=>absurd rfl h⟩
theorem EY (b off j:Nat):(⟨b,off,none⟩:Addr).add j=⟨b,off+j,none⟩:=by unfold Addr.add;split <;> simp_all
theorem RowA.cells {w:World} {B sz n cap:Nat} {ad:Addr} {cs:List Value} (h:RowA w B sz (some ad) n cap cs):∀j u,cs[j]? =some u ->w.cell? (ad.add j)=some u:=by
 intro j u hj
 obtain⟨b,off,ha,_,hcell⟩:=h.some_ (by rintro rfl;simp at hj)
 cases ha
 rw [EY];exact hcell j u hj
theorem BJ (w:World) (v:Value) (E B:Nat) (h1:v.oneCell'=true) (hB:w.heap.size < B:=by omega):RowA (w.alloc (.cells #[v] E)) B 1 (some ⟨w.heap.size,0,none⟩) 1 1 [v]:=by
 refine⟨by simp,a8,by unfold maxLen;omega,by simp [h1],(fun h=>by cases h),fun _=>⟨w.heap.size,0,rfl,hB,fun j u hj=> ?_⟩⟩
 have hg:(w.alloc (.cells #[v] E)).heap[w.heap.size]? =some (.cells #[v] E (0,0)):=heap_alloc_new w _
 rw [cell_of_row _ w.heap.size (0+j) #[v] E (0,0) hg]
 cases j with
 | zero=>simpa using hj
 | succ j=>simp at hj
theorem RowA.cut {w:World} {B sz n cap:Nat} {a:Option Addr} {cs:List Value} (h:RowA w B sz a n cap cs) (lo hi:Nat) (hl:lo <= hi) (hh:hi <= n):
 RowA w B sz (if cap=lo then a else a.map (·.add (lo * sz))) (hi - lo) (cap - lo) ((cs.take (hi * sz)).drop (lo * sz)):=by
 have hle:=h.le
 have hmax:=h.max
 have hln:=h.len
 have h1:hi * sz <= n * sz:=Nat.mul_le_mul_right _ hh
 refine⟨?_,by omega,by omega,fun u hu=>h.one u (List.mem_of_mem_take (List.mem_of_mem_drop hu)), ?_, ?_⟩
 . rw [List.length_drop,List.length_take,hln,Nat.min_eq_left h1, <- Nat.sub_mul]
 . intro hn
   split at hn
   . have:=h.nil hn;omega
   . have:=h.nil (by simpa using hn);omega
 . intro hne
   obtain⟨b,off,ha,hlt,hcell⟩:=h.some_ (by rintro rfl;simp at hne)
   have hlo:cap≠lo:=by
    rintro rfl
    apply hne
    apply List.eq_nil_of_length_eq_zero
    rw [List.length_drop,List.length_take,hln,Nat.min_eq_left h1]
    have:hi=cap:=by omega
    subst this
    simp
   rw [if_neg hlo,ha]
   refine⟨b,off+lo * sz,by simp [EY],hlt,fun j u hj=> ?_⟩
   rw [List.getElem?_drop,List.getElem?_take]at hj
   split at hj
   . have:=hcell _ _ hj
     rw [<- this];congr 2;omega
   . cases hj
theorem RowA.cut_l {P:Program} {w:World} {B sz n cap:Nat} {a:Option Addr} {cs:List Value} (h:RowA w B sz a n cap cs) (T E:TypeId) (ht:P.underlying T=some (.slice E)) (hs:∀W,(sizeOf E).run P W= .ok sz W)
 (lo:Nat) (hh:lo <= n):∃a' cap',(∀W,(Instr.slice T (.slice a n cap) (some (.int .i64 lo)) none none).run P W= .ok (.slice a' (n - lo) cap') W)/\RowA w B sz a' (n - lo) cap' (cs.drop (lo * sz)):=by
 have hc:=h.cut lo n hh (a8)
 have hle:=h.le
 rw [List.take_of_length_le (by rw [h.len];exact a8)]at hc
 refine⟨_,_,fun W=> ?_,hc⟩
 have he:P.elem T=E:=by simp [Program.elem,ht]
 rw [run_slice_l W T a n cap (by rw [he];exact ht) .i64 lo (by omega) (by omega),he,hs]
 simp [Result.andThen,sliced]
theorem cK {w:World} {base e sz n:Nat} {v:Value} {cs:List Value} (h:w.ownsRow base e sz v n cs) (h1:∀u∈cs,u.oneCell'=true):
 ∃a cap,v= .slice a n cap/\RowA w w.heap.size sz a n cap cs:=by
 obtain⟨hl,h2⟩:=h
 rcases h2 with⟨rfl,rfl⟩ | ⟨g,cap,cur,rfl,hb,hg,hnc,hcm,hcs,htake⟩
 . have:cs= []:=List.eq_nil_of_length_eq_zero (by simpa using hl)
   subst this
   exact⟨_,_,rfl,RowA.empty _ _ _⟩
 . refine ⟨_,_,rfl,⟨hl,hnc,hcm,h1,(fun h=>by cases h),fun _=>⟨g,0,rfl,(Array.getElem?_eq_some_iff.1 hg).1,fun j u hj=> ?_⟩⟩⟩
   have:=World.ownsRow.cells (w:=w) (base:=base) (e:=e) (size:=sz) (v:= .slice (some ⟨g,0,none⟩) n cap) (n:=n) (xs:=cs) ⟨hl, .inr ⟨g,cap,cur,rfl,hb,hg,hnc,hcm,hcs,htake⟩⟩ (g:=g) rfl j u hj
   rwa [EY]at this
theorem lK {w:World} {base base' e sz n:Nat} {v:Value} {cs:List Value} (h:w.ownsRow base' e sz v n cs) (hb:base <= base'):w.ownsRow base e sz v n cs:=by
 obtain⟨hl,h2⟩:=h
 refine⟨hl, ?_⟩
 rcases h2 with h2 | ⟨g,cap,cur,hv,hg,r⟩
 . exact .inl h2
 . exact .inr ⟨g,cap,cur,hv,aJ hb hg,r⟩
theorem eV {a b c:World} {row:Option Nat} (h:a.grownBy b row) (k:b.grownBy c row):a.grownBy c row:=
 ⟨k.os.trans h.os,k.tape.trans h.tape,k.output.trans h.output,aJ h.size k.size,fun i hi hne=>(k.block i (Nat.lt_of_lt_of_le hi h.size) hne).trans (h.block i hi hne)⟩
theorem EZ {w w':World} (h:Below w.heap.size w w'):w.grownBy w' none:=⟨h.os,h.tape,h.output,h.size,fun k hk _=>h.block k hk⟩
theorem j4 {w w':World} {base e sz n:Nat} {v:Value} {cs:List Value} (h:w.ownsRow base e sz v n cs) (hb:Below w.heap.size w w'):w'.ownsRow base e sz v n cs:=
 h.kept (EZ hb) (by cases hv:v.ownBlock <;> simp)
theorem nY {P:Program} {w:World} {ops:Array Oper} {rest:List Oper} {o:Oper} {a:Act} {Q:Exit ->Act ->World ->Prop} (hgd:o.guard=none) (s x:Operand) (t:TypeId)
 (ho:o.op= .call { callee:= .builtin .append,args:= #[s,x],argTypes:= #[t,t] })
 (base:Nat) (e:TypeId) (z:Value) (size bytes:Nat) (ht:P.underlying t=some (.slice e)) (hi:(P.info? e).map (fun i=>(i.zero,i.size,i.bytes))=some (some z,size,bytes))
 (hzs:z.cells.size=size) (hsz:0 < size)
 (v:Value) (n:Nat) (xs:List Value) (hs:a.eval s=v) (hown:w.ownsRow base e size v n xs)
 (ad:Option Addr) (m c B:Nat) (news:List Value) (hx:a.eval x= .slice ad m c) (hr:RowA w B size ad m c news)
 (h63:n+m <= maxLen) (hbytes:(n+m) * bytes <= 140737488355328) (hbase:base <= w.heap.size)
 (h:∀v' w',w'.ownsRow base e size v' (n+m) (xs ++ news) ->w.grownBy w' v.ownBlock ->wpList P ops Q rest (a.put o.dst v') w'):wpList P ops Q (o::rest) a w:=by
 obtain⟨i,hi',hz,hsize,hby⟩:=info_parts hi
 cases ad with
 | some ad=>
   exact wpList_append_own w hgd s x t ho base e i z size bytes ht hi' hz hsize hby hzs hsz v n xs hs hown ad m c news hx hr.len hr.cells hr.one h63 hbytes hbase (fun v' w' h2 h3 _=>h v' w' h2 h3)
 | none=>
   obtain rfl:=hr.nil rfl
   obtain rfl:m=0:=by have:=hr.le;omega
   have:news= []:=List.eq_nil_of_length_eq_zero (by simpa using hr.len)
   subst this
   refine wpList_append_own_none hgd s x t ho base e i size ht hi' v n xs hs hown hx ?_
   have:=h v w (by simpa using hown) (World.grownBy.refl w _)
   exact this
theorem IV {P:Program} {ops:Array Oper} {o:Oper} {a:Act} {w:World} {K:Act ->World ->Prop} {Q:Exit ->Act ->World ->Prop} {E:Prop}
 (hg:o.guard=none) (s x:Operand) (t:TypeId) (ho:o.op= .call { callee:= .builtin .append,args:= #[s,x],argTypes:= #[t,t] })
 (base:Nat) (e:TypeId) (z:Value) (size bytes:Nat) (ht:P.underlying t=some (.slice e)) (hi:(P.info? e).map (fun i=>(i.zero,i.size,i.bytes))=some (some z,size,bytes))
 (hzs:z.cells.size=size) (hsz:0 < size)
 (v:Value) (n:Nat) (xs:List Value) (hs:a.eval s=v) (hown:w.ownsRow base e size v n xs)
 (ad:Option Addr) (m c B:Nat) (news:List Value) (hx:a.eval x= .slice ad m c) (hr:RowA w B size ad m c news)
 (h63:n+m <= maxLen) (hbytes:(n+m) * bytes <= 140737488355328) (hbase:base <= w.heap.size)
 (h:∀v' w',w'.ownsRow base e size v' (n+m) (xs ++ news) ->w.grownBy w' v.ownBlock ->K (a.put o.dst v') w'):if Region.wanted o (yielded ops a.tmps)=true then Oper.wp P o a w K Q else E:=by
 have hw:Region.wanted o (yielded ops a.tmps)=true:=by simp [Region.wanted,hg]
 rw [if_pos hw]
 obtain⟨i,hi',hz,hsize,hby⟩:=info_parts hi
 cases ad with
 | some ad=>
   exact wp_append_own w s x t ho base e i z size bytes ht hi' hz hsize hby hzs hsz v n xs hs hown ad m c news hx hr.len hr.cells hr.one h63 hbytes hbase (fun v' w' h2 h3 _=>h v' w' h2 h3)
 | none=>
   obtain rfl:=hr.nil rfl
   obtain rfl:m=0:=by have:=hr.le;omega
   have:news= []:=List.eq_nil_of_length_eq_zero (by simpa using hr.len)
   subst this
   have hrun:=run_append_owned_none (P:=P) (w:=w) base t o.type e i size ht hi' v n xs hown
   unfold Oper.wp
   simp [execOp,ho,resolve,invoke,builtin,hs,hx,hrun,Result.andThen]
   exact h v w (by simpa using hown) (World.grownBy.refl w _)
theorem b9 {P:Program} {ops:Array Oper} {o:Oper} {a:Act} {w:World} {K:Act ->World ->Prop} {Q:Exit ->Act ->World ->Prop} {E:Prop}
 (hg:o.guard=none) (f:FuncId) (args:Array Operand) (tys:Array TypeId) (ho:o.op= .call { callee:= .value (.func f),args:=args,argTypes:=tys })
 (he:∀args w,(callFunc f args).run P w= .ok (.enter f args) w) (vals:List Value) (hv:args.toList.map a.eval=vals) (R:Ending ->World ->Prop) (hC:Calls P f vals.toArray w R)
 (h:∀e w',R e w' ->∃v,e= .returned v/\K (a.put o.dst v) w'):if Region.wanted o (yielded ops a.tmps)=true then Oper.wp P o a w K Q else E:=by
 have hw:Region.wanted o (yielded ops a.tmps)=true:=by simp [Region.wanted,hg]
 rw [if_pos hw]
 unfold Oper.wp
 have hv':args.map a.eval=vals.toArray:=by rw [<- hv];apply Array.ext';simp
 have hr:(execOp a.eval o).run P w= .ok (.enter f vals.toArray) w:=by
  simp [execOp,ho,resolve,invoke,Act.eval,Deferred.ofValue,hv',he]
 rw [hr]
 show Calls P f vals.toArray w _
 refine hC.mono fun e w' hR=> ?_
 obtain⟨v,rfl,hk⟩:=h e w' hR
 exact hk
theorem a_M {P:Program} {w:World} {ops:Array Oper} {rest:List Oper} {o:Oper} {a:Act} {Q:Exit ->Act ->World ->Prop} (hgd:o.guard=none) (s x:Operand) (t tn:TypeId)
 (ho:o.op= .call { callee:= .builtin .append,args:= #[s,x],argTypes:= #[t,tn] })
 (e:TypeId) (z:Value) (size bytes:Nat) (ht:P.underlying t=some (.slice e)) (htn:P.underlying tn=some (.int .i64)) (hi:(P.info? e).map (fun i=>(i.zero,i.size,i.bytes))=some (some z,size,bytes))
 (hzs:z.cells.size=size) (hsz:0 < size) (m:Nat) (hm:0 < m) (hs:a.eval s= .slice none 0 0) (hx:a.eval x= .int .i64 m)
 (h63:m <= 9223372036854775807) (hbytes:m * bytes <= 140737488355328)
 (h:∀g cap w',w'.ownsRow w.heap.size e size (.slice (some ⟨g,0,none⟩) 0 cap) 0 [] ->m <= cap ->cap <= maxLen ->Below w.heap.size w w' ->wpList P ops Q rest (a.put o.dst (.slice (some ⟨g,0,none⟩) m cap)) w'):wpList P ops Q (o::rest) a w:=by
 obtain⟨i,hi',hz,hsize,hby⟩:=info_parts hi
 have hr:=Lib.run_append_nil_zeros (P:=P) w t tn o.type e i z .i64 .i64 ht htn hi' hz m hm (by omega) (by omega) (by rw [hby];omega)
 refine Lib.wpList_append_run w hgd s x t tn ho _ _ hs hx _ _ hr ?_
 have hge:=grownCap_ge w m 0 e
 have hcm:=grownCap_le_maxLen w m 0 e (by unfold maxLen;omega)
 refine h _ _ _ ?_ hge hcm ?_
 . exact World.ownsRow_made w.drew _ _ (a8) hcm (by rw [Array.size_append,size_zeroCells,size_zeroCells,hzs, <- Nat.add_mul];congr 1;omega)
 . exact((a7).drew).alloc (a8) _
structure b_P (k:IntKind) (w:World) (B:Nat) (v:Value) (zs:List Int):Prop where
 row:∃a cap,v= .slice a zs.length cap/\RowA w B 1 a zs.length cap (zs.map (Value.int k))
 wf:∀z∈zs,(Lit.int k z).wf=true
theorem b_P.keep {k:IntKind} {w w':World} {B B':Nat} {v:Value} {zs:List Int} (h:b_P k w B v zs) (hb:Below B w w') (hB:B <= B'):b_P k w' B' v zs:=by
 obtain⟨⟨a,cap,hv,hr⟩,hw⟩:=h
 exact⟨⟨a,cap,hv,hr.keep hb hB⟩,hw⟩
theorem RowA.int_at {k:IntKind} {w:World} {B n cap:Nat} {a:Option Addr} {zs:List Int} (h:RowA w B 1 a n cap (zs.map (Value.int k))) (j:Nat) (hj:j < zs.length):
 ∃b off,a=some ⟨b,off,none⟩/\b < B/\∀i,i < zs.length ->w.cell? ⟨b,off+i,none⟩=some (.int k (zs.getD i 0)):=by
 obtain⟨b,off,ha,hlt,hcell⟩:=h.some_ (by intro h0;simp at h0;subst h0;simp at hj)
 refine⟨b,off,ha,hlt,fun i hi=>hcell i _ ?_⟩
 simp [List.getElem?_map,List.getD,List.getElem?_eq_getElem hi]
theorem tQ (k:IntKind) (zs:List Int):∀u∈zs.map (Value.int k),u.oneCell'=true:=ints_oneCell k zs
structure yJ (w:World) (B:Nat) (vals:List Value) (pss:List (List Value)):Prop where
 len:vals.length=pss.length
 each:∀i,i < pss.length ->∃a cap,vals[i]? =some (.slice a (pss.getD i []).length cap)/\RowA w B 1 a (pss.getD i []).length cap (pss.getD i [])
theorem yJ.keep {w w':World} {B B':Nat} {vals:List Value} {pss:List (List Value)} (h:yJ w B vals pss) (hb:Below B w w') (hB:B <= B'):yJ w' B' vals pss:=
 ⟨h.len,fun i hi=>by obtain⟨a,cap,h1,h2⟩:=h.each i hi;exact⟨a,cap,h1,h2.keep hb hB⟩⟩
theorem yJ.nil (w:World) (B:Nat):yJ w B [] []:=⟨rfl,fun i hi=>by simp at hi⟩
theorem yJ.cons {w:World} {B n cap:Nat} {a:Option Addr} {cs:List Value} {vals:List Value} {pss:List (List Value)} (h:RowA w B 1 a n cap cs) (hp:yJ w B vals pss):yJ w B (.slice a n cap::vals) (cs::pss):=by
 have hn:cs.length=n:=by simpa using h.len
 subst hn
 refine⟨by simp [hp.len],fun i hi=> ?_⟩
 cases i with
 | zero=>exact⟨a,cap,rfl,h⟩
 | succ i=>exact hp.each i (by simpa using hi)
def tot (pss:List (List Value)) (k:Nat):Nat:=(pss.take k).flatten.length
theorem e_I (pss:List (List Value)):tot pss 0=0:=by simp [tot]
theorem d_h (pss:List (List Value)) (k:Nat) (h:k < pss.length):(pss.take (k+1)).flatten=(pss.take k).flatten ++ pss.getD k []:=by
 rw [fJ h,List.take_succ_eq_append_getElem h,List.flatten_append,List.flatten_singleton]
theorem e_J (pss:List (List Value)) (k:Nat) (h:k < pss.length):tot pss (k+1)=tot pss k+(pss.getD k []).length:=by
 unfold tot;rw [d_h pss k h];simp
theorem d_V (pss:List (List Value)) (k:Nat):tot pss k <= pss.flatten.length:=by
 unfold tot
 conv=>rhs;rw [<- List.take_append_drop k pss,List.flatten_append,List.length_append]
 omega
theorem l_d (pss:List (List Value)):tot pss pss.length=pss.flatten.length:=by simp [tot]
def mX (w w':World):Prop:= ∃q,w'=w.drewN q
theorem C2 (w:World):mX w w:=⟨0,rfl⟩
theorem jX (w:World) (n:Nat):mX w (w.drewN n):=⟨n,rfl⟩
theorem j6 (w:World) (n m:Nat):mX w ((w.drewN n).drewN m):=⟨n+m,by simp [World.drewN,Nat.add_assoc]⟩
theorem mX.below {w w':World} (h:mX w w') (B:Nat):Below B w w':=by obtain⟨q,rfl⟩:=h;exact below_drewN (a7) _
def C3 {α :Type} (xs ys:List α) (k:Nat):Prop:=xs.take k=ys.take k
theorem D8 {α :Type} (xs ys:List α):C3 xs ys 0:=by simp [C3]
theorem D9 {α :Type} {xs ys:List α} {k:Nat} (h:C3 xs ys k) (h1:k < xs.length) (h2:k < ys.length) (he:xs[k]=ys[k]):C3 xs ys (k+1):=by
 unfold C3 at *
 rw [List.take_succ_eq_append_getElem h1,List.take_succ_eq_append_getElem h2,h,he]
theorem G3 {α :Type} {xs ys:List α} (h:C3 xs ys xs.length) (hl:xs.length=ys.length):xs=ys:=by
 unfold C3 at h
 rw [List.take_of_length_le (a8),List.take_of_length_le (by omega)]at h
 exact h
theorem IX {α :Type} {xs ys:List α} {k:Nat} (h1:k < xs.length) (h2:k < ys.length) (he:xs[k]≠ys[k]):xs≠ys:=by
 rintro rfl;exact he rfl
def rK (w:World) (e:TypeId) (sz n:Nat) (cs:List Value) (x:Ending) (w':World):Prop:=
 ∃v,x= .returned v/\w'.ownsRow w.heap.size e sz v n cs/\Below w.heap.size w w'
def G4 (c:Int):Bool:=decide (0 <= c/\c < 55296∨57343 < c/\c <= 1114111)
def idx {α :Type} (p: α ->Bool) (zs:List α):Int:=match zs.findIdx? p with | some i=>(i:Int) | none=> -1
def g_3 {α :Type} (p: α ->Bool) (zs:List α) (k:Nat):Prop:= ∀x∈zs.take k,p x=false
theorem h_W {α :Type} (p: α ->Bool) (zs:List α):g_3 p zs 0:=by simp [g_3]
theorem h_X {α :Type} {p: α ->Bool} {zs:List α} {k:Nat} (h:g_3 p zs k) (hk:k < zs.length) (hp:p zs[k]=false):g_3 p zs (k+1):=by
 intro x hx
 rw [List.take_succ_eq_append_getElem hk]at hx
 rcases List.mem_append.1 hx with hx | hx
 . exact h x hx
 . simp at hx;subst hx;exact hp
theorem m_E {α :Type} {p: α ->Bool} {zs:List α} {k:Nat} (h:g_3 p zs k) (hk:k < zs.length) (hp:p zs[k]=true):idx p zs=k:=by
 have:zs.findIdx? p=some k:=by
  rw [List.findIdx?_eq_some_iff_getElem]
  refine⟨hk,hp,fun j hj=> ?_⟩
  have:=h zs[j] (by rw [List.mem_take_iff_getElem];exact⟨j,by omega,rfl⟩)
  simp [this]
 simp [idx,this]
theorem j_a {α :Type} {p: α ->Bool} {zs:List α} (h:g_3 p zs zs.length):idx p zs= -1:=by
 have:zs.findIdx? p=none:=by
  rw [List.findIdx?_eq_none_iff]
  intro x hx
  exact h x (by simpa using hx)
 simp [idx,this]
theorem l_e {α :Type} (p: α ->Bool) (zs:List α):decide (0 <= idx p zs)=zs.any p:=by
 unfold idx
 cases h:zs.findIdx? p with
 | none=>
   rw [List.findIdx?_eq_none_iff]at h
   have:zs.any p=false:=by rw [List.any_eq_false];intro x hx;simp [h x hx]
   simp [this]
 | some i=>
   have h':=h
   rw [List.findIdx?_eq_some_iff_getElem]at h'
   obtain⟨hi,hp,_⟩:=h'
   have:zs.any p=true:=List.any_eq_true.2 ⟨zs[i],List.getElem_mem hi,hp⟩
   simp [this]
theorem d_W {P:Program} {w:World} {src dst e:TypeId} (hs:P.underlying src=some (.slice e)) (he:P.underlying e=some (.int .u8)) (hd:P.underlying dst=some .string)
 (b off n cap:Nat) (L:List UInt8) (hn:L.length=n) (hc:∀j,j < L.length ->w.cell? ⟨b,off+j,none⟩=some (.int .u8 (L.getD j 0).toNat)):
 (convert src dst (.slice (some ⟨b,off,none⟩) n cap)).run P w= .ok (.string ⟨L.toArray⟩) w:=by
 subst hn
 rw [run_convert_bytes_arg w src e hs he b off L.length cap (L.map fun c=>(c.toNat:Int)) (by simp) (fun i hi=>by rw [hc i hi];simp [List.getD,List.getElem?_eq_getElem hi]) dst hd]
 have:strOfNums (L.map fun c=>(c.toNat:Int))=⟨L.toArray⟩:=by
  simp [strOfNums,Function.comp_def]
 rw [this]
abbrev eK:=List UInt8×List UInt8
inductive aK where
 | mk (leaf:Bool) (props:List eK) (text:List Int) (kids:List aK)
def bK (ps:List eK):List Value:=ps.flatMap fun p=> [.string ⟨p.1.toArray⟩, .string ⟨p.2.toArray⟩]
theorem L9 (ps:List eK):(bK ps).length=ps.length * 2:=by
 induction ps with
 | nil=>rfl
 | cons p ps ih=>simp only [bK,List.flatMap_cons,List.length_append,List.length_cons,List.length_nil]at *;omega
theorem m7 (ps:List eK):∀u∈bK ps,u.oneCell'=true:=by
 intro u hu
 simp only [bK,List.mem_flatMap]at hu
 obtain⟨p, -,hp⟩:=hu
 simp at hp
 rcases hp with rfl | rfl <;> rfl
theorem a_c:∀ (ps:List eK) (i:Nat) (hi:i < ps.length),(bK ps)[i * 2]? =some (.string ⟨ps[i].1.toArray⟩)/\(bK ps)[i * 2+1]? =some (.string ⟨ps[i].2.toArray⟩)
 | [],i,hi=>absurd hi (by simp)
 | p::ps,0,hi=>by simp [bK]
 | p::ps,i+1,hi=>by
   have h:=a_c ps i (by simpa using hi)
   have e:bK (p::ps)= .string ⟨p.1.toArray⟩:: .string ⟨p.2.toArray⟩::bK ps:=by simp [bK]
   rw [e,show (i+1) * 2=i * 2+1+1 by omega]
   simpa using h
def gX:List eK ->Nat
 | []=>0
 | p::ps=>2+p.1.length+p.2.length+gX ps
mutual
def aK.wt:aK ->Nat
 | .mk _ ps t ks=>1+gX ps+t.length+dX ks
def dX:List aK ->Nat
 | []=>0
 | k::ks=>k.wt+dX ks
end
theorem rV (ps:List eK):2 * ps.length <= gX ps:=by
 induction ps with
 | nil=>simp [gX]
 | cons p ps ih=>simp only [gX,List.length_cons];omega
theorem b_9 {ps:List eK} {p:eK} (h:p∈ps):2+p.1.length+p.2.length <= gX ps:=by
 induction ps with
 | nil=>cases h
 | cons q ps ih=>
   simp only [gX]
   rcases List.mem_cons.1 h with rfl | h
   . omega
   . have:=ih h;omega
theorem G5 (n:aK):1 <= n.wt:=by cases n;simp only [aK.wt];omega
theorem fX (ks:List aK):ks.length <= dX ks:=by
 induction ks with
 | nil=>simp
 | cons k ks ih=>have:=G5 k;simp only [dX,List.length_cons];omega
theorem iK {ks:List aK} {k:aK} (h:k∈ks):k.wt <= dX ks:=by
 induction ks with
 | nil=>cases h
 | cons q ks ih=>
   simp only [dX]
   rcases List.mem_cons.1 h with rfl | h
   . omega
   . have:=ih h;omega
theorem sK (a b:List aK):dX (a ++ b)=dX a+dX b:=by
 induction a with
 | nil=>simp [dX]
 | cons k ks ih=>simp only [List.cons_append,dX,ih];omega
mutual
def dJ (w:World) (B:Nat):aK ->List Value ->Prop
 | .mk l ps t ks,cs=>∃ap cp at_ ct ak ck css,cs= [.bool l, .slice ap ps.length cp, .slice at_ t.length ct, .slice ak ks.length ck]/\RowA w B 2 ap ps.length cp (bK ps)/\
     RowA w B 1 at_ t.length ct (t.map (Value.int .i32))/\(∀z∈t,(Lit.int .i32 z).wf=true)/\RowA w B 4 ak ks.length ck css/\dQ w B ks css
def dQ (w:World) (B:Nat):List aK ->List Value ->Prop
 | [],css=>css= []
 | k::ks,css=>∃c1 c2,css=c1 ++ c2/\dJ w B k c1/\dQ w B ks c2
end
mutual
theorem dJ.keep {w w':World} {B B':Nat} (hb:Below B w w') (hB:B <= B'):∀ (n:aK) (cs:List Value),dJ w B n cs ->dJ w' B' n cs
 | .mk l ps t ks,cs=>by
   intro h
   unfold dJ at h⊢
   obtain⟨ap,cp,at_,ct,ak,ck,css,h1,h2,h3,h4,h5,h6⟩:=h
   exact⟨ap,cp,at_,ct,ak,ck,css,h1,h2.keep hb hB,h3.keep hb hB,h4,h5.keep hb hB,dQ.keep hb hB ks css h6⟩
theorem dQ.keep {w w':World} {B B':Nat} (hb:Below B w w') (hB:B <= B'):∀ (ks:List aK) (css:List Value),dQ w B ks css ->dQ w' B' ks css
 | [],css=>by intro h;unfold dQ at h⊢;exact h
 | k::ks,css=>by
   intro h
   unfold dQ at h⊢
   obtain⟨c1,c2,h1,h2,h3⟩:=h
   exact⟨c1,c2,h1,dJ.keep hb hB k c1 h2,dQ.keep hb hB ks c2 h3⟩
end
theorem dJ.len {w:World} {B:Nat} {n:aK} {cs:List Value} (h:dJ w B n cs):cs.length=4:=by
 cases n;unfold dJ at h;obtain⟨ap,cp,at_,ct,ak,ck,css,h1, -⟩:=h;subst h1;rfl
theorem dJ.one {w:World} {B:Nat} {n:aK} {cs:List Value} (h:dJ w B n cs):∀u∈cs,u.oneCell'=true:=by
 cases n;unfold dJ at h;obtain⟨ap,cp,at_,ct,ak,ck,css,h1, -⟩:=h;subst h1
 intro u hu
 simp at hu
 rcases hu with rfl | rfl | rfl | rfl <;> rfl
theorem dQ.len {w:World} {B:Nat}:∀ {ks:List aK} {css:List Value},dQ w B ks css ->css.length=ks.length * 4
 | [],css,h=>by unfold dQ at h;subst h;rfl
 | k::ks,css,h=>by
   unfold dQ at h
   obtain⟨c1,c2,rfl,h2,h3⟩:=h
   have a:=h2.len;have b:=dQ.len h3
   simp only [List.length_append,List.length_cons];omega
theorem dQ.one {w:World} {B:Nat}:∀ {ks:List aK} {css:List Value},dQ w B ks css ->∀u∈css,u.oneCell'=true
 | [],css,h=>by unfold dQ at h;subst h;simp
 | k::ks,css,h=>by
   unfold dQ at h
   obtain⟨c1,c2,rfl,h2,h3⟩:=h
   intro u hu
   rcases List.mem_append.1 hu with hu | hu
   . exact h2.one u hu
   . exact dQ.one h3 u hu
theorem dQ.at_ {w:World} {B:Nat}:∀ {ks:List aK} {css:List Value},dQ w B ks css ->∀ (i:Nat) (hi:i < ks.length),∃c,dJ w B ks[i] c/\∀j,j < 4 ->css[i * 4+j]? =c[j]?
 | [],css,h,i,hi=>absurd hi (by simp)
 | k::ks,css,h,0,hi=>by
   unfold dQ at h
   obtain⟨c1,c2,rfl,h2,h3⟩:=h
   refine⟨c1,h2,fun j hj=> ?_⟩
   rw [Nat.zero_mul,Nat.zero_add,List.getElem?_append_left (by rw [h2.len];exact hj)]
 | k::ks,css,h,i+1,hi=>by
   unfold dQ at h
   obtain⟨c1,c2,rfl,h2,h3⟩:=h
   obtain⟨c,hc,hall⟩:=dQ.at_ h3 i (by simpa using hi)
   refine⟨c,by simpa using hc,fun j hj=> ?_⟩
   rw [List.getElem?_append_right (by rw [h2.len];omega), <- hall j hj,h2.len]
   congr 1;omega
def bY (w:World) (B:Nat) (n:aK) (v:Value):Prop:= ∃cs,v= .agg cs.toArray/\dJ w B n cs
theorem bY.keep {w w':World} {B B':Nat} {n:aK} {v:Value} (h:bY w B n v) (hb:Below B w w') (hB:B <= B'):bY w' B' n v:=by
 obtain⟨cs,h1,h2⟩:=h
 exact⟨cs,h1,dJ.keep hb hB n cs h2⟩
theorem bY.open {w:World} {B:Nat} {l:Bool} {ps:List eK} {t:List Int} {ks:List aK} {v:Value} (h:bY w B (.mk l ps t ks) v):
 ∃ ap cp at_ ct ak ck css,v= .agg #[.bool l, .slice ap ps.length cp, .slice at_ t.length ct, .slice ak ks.length ck]/\RowA w B 2 ap ps.length cp (bK ps)/\
   b_P .i32 w B (.slice at_ t.length ct) t/\RowA w B 4 ak ks.length ck css/\dQ w B ks css:=by
 obtain⟨cs,rfl,h⟩:=h
 unfold dJ at h
 obtain⟨ap,cp,at_,ct,ak,ck,css,rfl,h2,h3,h4,h5,h6⟩:=h
 exact⟨ap,cp,at_,ct,ak,ck,css,rfl,h2,⟨⟨at_,ct,rfl,h3⟩,h4⟩,h5,h6⟩
theorem RowA.prop_at {w:World} {B cap:Nat} {a:Option Addr} {ps:List eK} (h:RowA w B 2 a ps.length cap (bK ps)) (i:Nat) (hi:i < ps.length):
 ∃b off,a=some ⟨b,off,none⟩/\b < B/\w.cell? ⟨b,off+i * 2,none⟩=some (.string ⟨ps[i].1.toArray⟩)/\w.cell? ⟨b,off+i * 2+1,none⟩=some (.string ⟨ps[i].2.toArray⟩):=by
 obtain⟨b,off,ha,hb,hc⟩:=h.some_ (by
  intro he
  have:=L9 ps
  rw [he]at this
  simp at this;omega)
 obtain⟨h1,h2⟩:=a_c ps i hi
 exact⟨b,off,ha,hb,hc _ _ h1,by have:=hc _ _ h2;rwa [<- Nat.add_assoc]at this⟩
theorem dJ.form {w:World} {B:Nat} {n:aK} {cs:List Value} (h:dJ w B n cs):∃l a1 n1 c1 a2 n2 c2 a3 n3 c3,cs= [.bool l, .slice a1 n1 c1, .slice a2 n2 c2, .slice a3 n3 c3]:=by
 cases n;unfold dJ at h;obtain⟨ap,cp,at_,ct,ak,ck,css,h1, -⟩:=h
 exact⟨_,_,_,_,_,_,_,_,_,_,h1⟩
theorem RowA.kid_at {w:World} {B cap:Nat} {a:Option Addr} {ks:List aK} {css:List Value} (h:RowA w B 4 a ks.length cap css) (hk:dQ w B ks css) (i:Nat) (hi:i < ks.length):
 ∃ b off l a1 n1 c1 a2 n2 c2 a3 n3 c3,a=some ⟨b,off,none⟩/\b < B/\dJ w B ks[i] [.bool l, .slice a1 n1 c1, .slice a2 n2 c2, .slice a3 n3 c3]/\w.cell? ⟨b,off+i * 4,none⟩=some (.bool l)/\w.cell? ⟨b,off+i * 4+1,none⟩=some (.slice a1 n1 c1)/\
   w.cell? ⟨b,off+i * 4+2,none⟩=some (.slice a2 n2 c2)/\w.cell? ⟨b,off+i * 4+3,none⟩=some (.slice a3 n3 c3):=by
 obtain⟨c,hc,hall⟩:=hk.at_ i hi
 obtain⟨l,a1,n1,c1,a2,n2,c2,a3,n3,c3,rfl⟩:=hc.form
 obtain⟨b,off,ha,hb,hcell⟩:=h.some_ (by
  intro he
  have:=hk.len
  rw [he]at this
  simp at this;omega)
 have g0:=hcell _ _ (hall 0 (by omega))
 have g1:=hcell _ _ (hall 1 (by omega))
 have g2:=hcell _ _ (hall 2 (by omega))
 have g3:=hcell _ _ (hall 3 (by omega))
 simp only [<- Nat.add_assoc,Nat.add_zero]at g0 g1 g2 g3
 exact⟨b,off,l,a1,n1,c1,a2,n2,c2,a3,n3,c3,ha,hb,hc,g0,g1,g2,g3⟩
structure j9 (bad:TypeId ->Bool) (B:Nat) (w w':World):Prop where
 below:Below B w w'
 size:w.heap.size <= w'.heap.size
 block:∀ (i:Nat) (cs:Array Value) (T:TypeId) (fr:Nat×Nat),w.heap[i]? =some (Obj.cells cs T fr) ->bad T=false ->w'.heap[i]? =some (Obj.cells cs T fr)
section
variable {bad : TypeId -> Bool} {B : Nat} {w w' w'' : World}
theorem j9.refl (hB:B <= w.heap.size):j9 bad B w w:=⟨Below.mono (a7) hB,a8,fun _ _ _ _ h _=>h⟩
theorem j9.trans (h:j9 bad B w w') (k:j9 bad B w' w''):j9 bad B w w'':=
 ⟨h.below.trans k.below,aJ h.size k.size,fun i cs T fr hi hT=>k.block i cs T fr (h.block i cs T fr hi hT) hT⟩
theorem j9.of_below (h:Below w.heap.size w w') (hB:B <= w.heap.size):j9 bad B w w':=
 ⟨h.mono hB,h.size,fun i cs T fr hi _=>(h.block i (by
  rcases Nat.lt_or_ge i w.heap.size with hlt | hge
  . exact hlt
  . rw [Array.getElem?_eq_none hge]at hi;cases hi)).trans hi⟩
theorem j9.alloc (h:j9 bad B w w') (hB:B <= w.heap.size) (o:Obj):j9 bad B w (w'.alloc o):=
 h.trans (j9.of_below ((a7).alloc (a8) o) (aJ hB h.size))
theorem j9.setCell (h:j9 bad B w w') {b off:Nat} {cs:Array Value} {T:TypeId} {fr:Nat×Nat} (hb:w'.heap[b]? =some (Obj.cells cs T fr)) (hT:bad T=true) (hB:B <= b) (v:Value):j9 bad B w (w'.setCell ⟨b,off,none⟩ v):=by
 refine⟨h.below.setCell (p:=⟨b,off,none⟩) hB v,by simpa [World.setCell]using h.size,fun i cs' T' fr' hi hT'=> ?_⟩
 have hi':=h.block i cs' T' fr' hi hT'
 have hne:i≠b:=by
  rintro rfl
  rw [hb]at hi'
  injection hi' with e
  injection e with e1 e2 e3
  subst e2
  rw [hT]at hT';cases hT'
 rw [Below.heap_setCell w' ⟨b,off,none⟩ v i hne]
 exact hi'
end
theorem j9.box4 {bad:TypeId ->Bool} {B:Nat} {w w1:World} {c0 c1 c2 c3:Value} {T:TypeId} (hb:j9 bad B (w.alloc (.cells #[c0,c1,c2,c3] T)) w1) (hT:bad T=false):
 w1.cell? ⟨w.heap.size,0,none⟩=some c0/\w1.cell? ⟨w.heap.size,1,none⟩=some c1/\w1.cell? ⟨w.heap.size,2,none⟩=some c2/\w1.cell? ⟨w.heap.size,3,none⟩=some c3:=by
 have h:=hb.block w.heap.size _ _ _ (heap_alloc_new w _) hT
 refine⟨?_, ?_, ?_, ?_⟩ <;> (rw [cell_of_row _ _ _ _ _ _ h];rfl)
theorem RowA.setCell {w:World} {B sz n cap:Nat} {a:Option Addr} {cs:List Value} (h:RowA w B sz a n cap cs) (p:Addr) (v:Value) (hne:∀b off,a=some ⟨b,off,none⟩ ->b≠p.block):RowA (w.setCell p v) B sz a n cap cs:=by
 refine⟨h.len,h.le,h.max,h.one,h.nil,fun hc=> ?_⟩
 obtain⟨b,off,ha,hlt,hcell⟩:=h.some_ hc
 refine⟨b,off,ha,hlt,fun j u hj=> ?_⟩
 have h0:=hcell j u hj
 have hb:=hne b off ha
 rw [<- h0]
 unfold World.cell?
 rw [Below.heap_setCell w p v b hb]
structure RowQ (w:World) (ok:Nat ->Prop) (sz:Nat) (a:Option Addr) (n cap:Nat) (cs:List Value):Prop where
 len:cs.length=n * sz
 le:n <= cap
 max:cap <= maxLen
 one:∀u∈cs,u.oneCell'=true
 nil:a=none ->cap=0
 some_:cs≠ [] ->∃b off,a=some ⟨b,off,none⟩/\ok b/\b < w.heap.size/\∀j u,cs[j]? =some u ->w.cell? ⟨b,off+j,none⟩=some u
theorem RowQ.keep {w w':World} {ok ok':Nat ->Prop} {sz n cap:Nat} {a:Option Addr} {cs:List Value} (h:RowQ w ok sz a n cap cs) (hs:w.heap.size <= w'.heap.size) (hk:∀b,ok b ->b < w.heap.size ->w'.heap[b]? =w.heap[b]?) (ho:∀b,ok b ->b < w.heap.size ->ok' b):RowQ w' ok' sz a n cap cs:=by
 refine⟨h.len,h.le,h.max,h.one,h.nil,fun hne=> ?_⟩
 obtain⟨b,off,ha,hb,hlt,hcell⟩:=h.some_ hne
 refine⟨b,off,ha,ho b hb hlt,Nat.lt_of_lt_of_le hlt hs,fun j u hj=> ?_⟩
 rw [World.cell?_of_block (a:=⟨b,off+j,none⟩) (hk b hb hlt)]
 exact hcell j u hj
theorem RowQ.row {w:World} {ok:Nat ->Prop} {sz n cap:Nat} {a:Option Addr} {cs:List Value} (h:RowQ w ok sz a n cap cs):RowA w w.heap.size sz a n cap cs:=by
 refine⟨h.len,h.le,h.max,h.one,h.nil,fun hne=> ?_⟩
 obtain⟨b,off,ha,hb,hlt,hcell⟩:=h.some_ hne
 exact⟨b,off,ha,hlt,hcell⟩
theorem RowQ.empty (w:World) (ok:Nat ->Prop) (sz:Nat):RowQ w ok sz none 0 0 []:=⟨by simp,a8,Nat.zero_le _,by simp,fun _=>rfl,fun h=>absurd rfl h⟩
theorem RowQ.of_own {w:World} {base e sz n:Nat} {v:Value} {cs:List Value} (h:w.ownsRow base e sz v n cs) (h1:∀u∈cs,u.oneCell'=true):
 ∃a cap,v= .slice a n cap/\RowQ w (fun b=>v.ownBlock=some b) sz a n cap cs:=by
 obtain⟨a,cap,hv,hr⟩:=cK h h1
 refine⟨a,cap,hv,hr.len,hr.le,hr.max,hr.one,hr.nil,fun hne=> ?_⟩
 obtain⟨b,off,ha,hlt,hcell⟩:=hr.some_ hne
 refine⟨b,off,ha, ?_,hlt,hcell⟩
 rcases h.2 with⟨hn,_⟩ | ⟨g,cap',cur,hg,_⟩
 . rw [hv]at hn;injection hn with e1;subst e1;cases ha
 . rw [hv]at hg;injection hg with e1
   rw [ha]at e1
   injection e1 with e2
   injection e2 with e3
   subst e3
   rw [hv,ha];simp [Value.ownBlock]at *
mutual
def NodeQ (w:World) (ok:Nat ->Prop):aK ->List Value ->Prop
 | .mk l ps t ks,cs=>∃ap cp at_ ct ak ck css,cs= [.bool l, .slice ap ps.length cp, .slice at_ t.length ct, .slice ak ks.length ck]/\RowQ w ok 2 ap ps.length cp (bK ps)/\
     RowQ w ok 1 at_ t.length ct (t.map (Value.int .i32))/\(∀z∈t,(Lit.int .i32 z).wf=true)/\RowQ w ok 4 ak ks.length ck css/\bX w ok ks css
def bX (w:World) (ok:Nat ->Prop):List aK ->List Value ->Prop
 | [],css=>css= []
 | k::ks,css=>∃c1 c2,css=c1 ++ c2/\NodeQ w ok k c1/\bX w ok ks c2
end
mutual
theorem NodeQ.keep {w w':World} {ok ok':Nat ->Prop} (hs:w.heap.size <= w'.heap.size) (hk:∀b,ok b ->b < w.heap.size ->w'.heap[b]? =w.heap[b]?) (ho:∀b,ok b ->b < w.heap.size ->ok' b):∀ (n:aK) (cs:List Value),NodeQ w ok n cs ->NodeQ w' ok' n cs
 | .mk l ps t ks,cs=>by
   intro h
   unfold NodeQ at h⊢
   obtain⟨ap,cp,at_,ct,ak,ck,css,h1,h2,h3,h4,h5,h6⟩:=h
   exact⟨ap,cp,at_,ct,ak,ck,css,h1,h2.keep hs hk ho,h3.keep hs hk ho,h4,h5.keep hs hk ho,bX.keep hs hk ho ks css h6⟩
theorem bX.keep {w w':World} {ok ok':Nat ->Prop} (hs:w.heap.size <= w'.heap.size) (hk:∀b,ok b ->b < w.heap.size ->w'.heap[b]? =w.heap[b]?) (ho:∀b,ok b ->b < w.heap.size ->ok' b):∀ (ks:List aK) (css:List Value),bX w ok ks css ->bX w' ok' ks css
 | [],css=>by intro h;unfold bX at h⊢;exact h
 | k::ks,css=>by
   intro h
   unfold bX at h⊢
   obtain⟨c1,c2,h1,h2,h3⟩:=h
   exact⟨c1,c2,h1,NodeQ.keep hs hk ho k c1 h2,bX.keep hs hk ho ks c2 h3⟩
end
mutual
theorem NodeQ.node {w:World} {ok:Nat ->Prop}:∀ (n:aK) (cs:List Value),NodeQ w ok n cs ->dJ w w.heap.size n cs
 | .mk l ps t ks,cs=>by
   intro h
   unfold NodeQ at h
   unfold dJ
   obtain⟨ap,cp,at_,ct,ak,ck,css,h1,h2,h3,h4,h5,h6⟩:=h
   exact⟨ap,cp,at_,ct,ak,ck,css,h1,h2.row,h3.row,h4,h5.row,bX.kids ks css h6⟩
theorem bX.kids {w:World} {ok:Nat ->Prop}:∀ (ks:List aK) (css:List Value),bX w ok ks css ->dQ w w.heap.size ks css
 | [],css=>by intro h;unfold bX at h;unfold dQ;exact h
 | k::ks,css=>by
   intro h
   unfold bX at h
   unfold dQ
   obtain⟨c1,c2,h1,h2,h3⟩:=h
   exact⟨c1,c2,h1,NodeQ.node k c1 h2,bX.kids ks c2 h3⟩
end
theorem bX.append {w:World} {ok:Nat ->Prop}:∀ {ks ks':List aK} {css css':List Value},bX w ok ks css ->bX w ok ks' css' ->bX w ok (ks ++ ks') (css ++ css')
 | [],ks',css,css',h,h'=>by unfold bX at h;subst h;exact h'
 | k::ks,ks',css,css',h,h'=>by
   unfold bX at h
   obtain⟨c1,c2,rfl,h2,h3⟩:=h
   rw [List.cons_append]
   unfold bX
   exact⟨c1,c2 ++ css',by simp,h2,bX.append h3 h'⟩
theorem bX.one {w:World} {ok:Nat ->Prop} {k:aK} {c:List Value} (h:NodeQ w ok k c):bX w ok [k] c:=by
 unfold bX
 exact⟨c, [],by simp,h,by unfold bX;rfl⟩
theorem LJ {P:Program} (w:World) (base:Nat) (t ty e:TypeId) (i:TypeInfo) (z:Value) (size bytes:Nat) (ht:P.underlying t=some (.slice e)) (hi:P.info? e=some i) (hz:i.zero=some z)
 (hsize:i.size=size) (hby:i.bytes=bytes) (hzs:z.cells.size=size) (hsz:0 < size)
 (v:Value) (n:Nat) (xs:List Value) (hown:w.ownsRow base e size v n xs)
 (a:Addr) (m c:Nat) (news:List Value) (hl:news.length=m * size) (hnews:∀j u,news[j]? =some u ->w.cell? (a.add j)=some u) (h1:∀u∈news,u.oneCell'=true)
 (h63:n+m <= maxLen) (hbytes:(n+m) * bytes <= 140737488355328) (hbase:base <= w.heap.size):
 ∃ v' w',(Builtin.append_ #[t,t] ty #[v, .slice (some a) m c]).run P w= .ok v' w'/\w'.ownsRow base e size v' (n+m) (xs ++ news)/\w.grownBy w' v.ownBlock/\
   (v'.ownBlock=v.ownBlock∨ ∀k,v'.ownBlock=some k ->w.heap.size <= k):=by
 obtain⟨v',w',hr,h2,h3, -⟩:=run_append_own (P:=P) w base t ty e i z size bytes ht hi hz hsize hby hzs hsz v n xs hown a m c news hl hnews h1 h63 hbytes hbase
 refine⟨v',w',hr,h2,h3, ?_⟩
 rcases hown.2 with⟨rfl,rfl⟩ | ⟨g,cap,cur,rfl,hbg,hg,hnc,hcm,hcs,htake⟩
 . have hx:xs= []:=List.eq_nil_of_length_eq_zero (by simpa using hown.1)
   subst hx
   obtain⟨v2,w2,hr2,k2, -, -⟩:=run_append_own (P:=P) w w.heap.size t ty e i z size bytes ht hi hz hsize hby hzs hsz (.slice none 0 0) 0 [] (World.ownsRow_nil _ _ _ _) a m c news hl hnews h1 h63 hbytes (a8)
   rw [hr]at hr2
   cases hr2
   exact .inr fun k hk=>(k2.lt k hk).1
 . subst hsize
   by_cases hroom:n+m <= cap
   . have hfit:n * i.size+news.length <= cur.size:=by rw [hl,hcs, <- Nat.add_mul];exact Nat.mul_le_mul_right _ hroom
     have hr2:=run_append_room (P:=P) w t ty e i ht hi g n cap cur hg a m c news hl hnews h1 hroom hfit
     rw [hr]at hr2
     cases hr2
     exact .inl rfl
   . have holds:∀j u,xs[j]? =some u ->w.cell? ((⟨g,0,none⟩:Addr).add j)=some u:=hown.cells (g:=g) rfl
     have hr2:=run_append_grow (P:=P) w t ty e i z ht hi hz ⟨g,0,none⟩ n cap xs hown.1 holds a m c news hl hnews (by omega) (by unfold maxLen at h63;omega) (growslice_fits (by unfold maxLen at h63;omega) (by subst hby;exact hbytes))
     rw [hr]at hr2
     cases hr2
     exact .inr fun k hk=>by
      simp [Value.ownBlock]at hk
      omega
theorem DJ {P:Program} {w:World} {ops:Array Oper} {rest:List Oper} {o:Oper} {a:Act} {Q:Exit ->Act ->World ->Prop} (hgd:o.guard=none) (s x:Operand) (t:TypeId)
 (ho:o.op= .call { callee:= .builtin .append,args:= #[s,x],argTypes:= #[t,t] })
 (base:Nat) (e:TypeId) (z:Value) (size bytes:Nat) (ht:P.underlying t=some (.slice e)) (hi:(P.info? e).map (fun i=>(i.zero,i.size,i.bytes))=some (some z,size,bytes))
 (hzs:z.cells.size=size) (hsz:0 < size)
 (v:Value) (n:Nat) (xs:List Value) (hs:a.eval s=v) (hown:w.ownsRow base e size v n xs)
 (ad:Addr) (m c B:Nat) (news:List Value) (hx:a.eval x= .slice (some ad) m c) (hr:RowA w B size (some ad) m c news)
 (h63:n+m <= maxLen) (hbytes:(n+m) * bytes <= 140737488355328) (hbase:base <= w.heap.size)
 (h:∀v' w',w'.ownsRow base e size v' (n+m) (xs ++ news) ->w.grownBy w' v.ownBlock ->(v'.ownBlock=v.ownBlock∨ ∀k,v'.ownBlock=some k ->w.heap.size <= k) ->wpList P ops Q rest (a.put o.dst v') w'):wpList P ops Q (o::rest) a w:=by
 obtain⟨i,hi',hz,hsize,hby⟩:=info_parts hi
 refine wpList_plain hgd fun K hK=> ?_
 obtain⟨v',w',hrun,h2,h3,h4⟩:=LJ (P:=P) w base t o.type e i z size bytes ht hi' hz hsize hby hzs hsz v n xs hown ad m c news hr.len hr.cells hr.one h63 hbytes hbase
 unfold Oper.wp execOp
 simp only [ho,resolve,invoke,builtin,Sem.run_bind,Sem.run_pure,Result.andThen_ok,List.map_toArray,List.map_cons,List.map_nil,hs,hx,hrun]
 exact hK _ _ (h v' w' h2 h3 h4)
structure d_4 (w w':World) (ok ok':Nat ->Prop):Prop where
 size:w.heap.size <= w'.heap.size
 block:∀b,ok b ->b < w.heap.size ->w'.heap[b]? =w.heap[b]?
 let_:∀b,ok b ->b < w.heap.size ->ok' b
theorem h_Y {wr w1 w2 w3:World} {M T sz n:Nat} {kv kv':Value} {css:List Value} (hown:wr.ownsRow M T sz kv n css) (h1:Below wr.heap.size wr w1) (h2:Below w1.heap.size w1 w2) (hg:w2.grownBy w3 kv.ownBlock)
 (hw:kv'.ownBlock=kv.ownBlock∨ ∀k,kv'.ownBlock=some k ->w2.heap.size <= k):d_4 wr w3 (fun b=>M <= b/\kv.ownBlock≠some b) (fun b=>M <= b/\kv'.ownBlock≠some b):=by
 have s1:=h1.size;have s2:=h2.size;have s3:=hg.size
 refine⟨by omega,fun b hb hlt=> ?_,fun b hb hlt=>⟨hb.1, ?_⟩⟩
 . rw [hg.block b (by omega) (fun e=>hb.2 e.symm),h2.block b (by omega),h1.block b hlt]
 . rcases hw with hw | hw
   . rw [hw];exact hb.2
   . intro e;have:=hw b e;omega
theorem j_b {wr w1 w2 w3:World} {M T sz n:Nat} {kv kv':Value} {css:List Value} (hown:wr.ownsRow M T sz kv n css) (hM:M <= wr.heap.size) (h2:Below w1.heap.size w1 w2) (hg:w2.grownBy w3 kv.ownBlock)
 (hw:kv'.ownBlock=kv.ownBlock∨ ∀k,kv'.ownBlock=some k ->w2.heap.size <= k):d_4 w1 w3 (fun b=>wr.heap.size <= b) (fun b=>M <= b/\kv'.ownBlock≠some b):=by
 have s2:=h2.size;have s3:=hg.size
 have hne:∀b,wr.heap.size <= b ->kv.ownBlock≠some b:=fun b hb e=>by have:=(hown.lt b e).2;omega
 refine⟨by omega,fun b hb hlt=> ?_,fun b hb hlt=>⟨by omega, ?_⟩⟩
 . rw [hg.block b (by omega) (fun e=>hne b hb e.symm),h2.block b (by omega)]
 . rcases hw with hw | hw
   . rw [hw];exact hne b hb
   . intro e;have:=hw b e;omega
theorem RowQ.stay {w w':World} {ok ok':Nat ->Prop} {sz n cap:Nat} {a:Option Addr} {cs:List Value} (h:RowQ w ok sz a n cap cs) (s:d_4 w w' ok ok'):RowQ w' ok' sz a n cap cs:=h.keep s.size s.block s.let_
theorem NodeQ.stay {w w':World} {ok ok':Nat ->Prop} {n:aK} {cs:List Value} (h:NodeQ w ok n cs) (s:d_4 w w' ok ok'):NodeQ w' ok' n cs:=NodeQ.keep s.size s.block s.let_ n cs h
theorem NodeQ.form {w:World} {ok:Nat ->Prop} {n:aK} {cs:List Value} (h:NodeQ w ok n cs):∃l a1 n1 c1 a2 n2 c2 a3 n3 c3,cs= [.bool l, .slice a1 n1 c1, .slice a2 n2 c2, .slice a3 n3 c3]:=(NodeQ.node n cs h).form
theorem bX.onec {w:World} {ok:Nat ->Prop} {ks:List aK} {css:List Value} (h:bX w ok ks css):∀u∈css,u.oneCell'=true:=(bX.kids ks css h).one
end Go.Redl
namespace Go.Proofs.YtmadpclcmjahoaaGreatDoor
open Go.RowKit Go.Redl Go.Deep
def F0 {H α :Type} (Φ : α ->List Value ->DataW H ->Prop):List α ->List Value ->List (DataW H) ->Prop
 | [],css,ds=>css= []/\ds= []
 | y::ys,css,ds=>∃c cs d ds',css=c ++ cs/\ds=d::ds'/\ Φ y c d/\F0 Φ ys cs ds'
theorem e_K {H α :Type} {enc:TypeId×Value ->H} {P:Program} {W:World} {fuel:Nat} {e:TypeId} {sz:Nat} (Φ : α ->List Value ->DataW H ->Prop)
 (hΦ :∀cs x,DataW.trod enc P W 0 (fun _=>true) true fuel e cs=some x ->∃y, Φ y cs x.1):
 ∀ (elems:List (DataW H×List MemPlace)) (a:Addr) (off:Nat),(∀i,i < elems.length ->(W.cells? 0 (a.add (off+i * sz)) sz).bind (DataW.trod enc P W 0 (fun _=>true) true fuel e)=elems[i]?) ->
   ∃ys css,F0 Φ ys css (elems.map (·.1))/\ys.length=elems.length/\css.length=elems.length * sz/\∀j u,css[j]? =some u ->W.cell? (a.add (off+j))=some u
 | [],a,off,h=>⟨[], [],⟨rfl,rfl⟩,rfl,by simp,by simp⟩
 | x ::elems,a,off,h=>by
   have h0:=h 0 (by simp)
   simp only [Nat.zero_mul,Nat.add_zero,List.getElem?_cons_zero,Option.bind_eq_some_iff]at h0
   obtain⟨c,hc,ht⟩:=h0
   obtain⟨y,hy⟩:=hΦ c x ht
   obtain⟨_,hcl,hcell⟩:=World.cells?_some hc
   obtain⟨ys,css,h1,h2,h3,h4⟩:=e_K Φ hΦ elems a (off+sz) (fun i hi=>by
    have:=h (i+1) (by simpa using hi)
    rw [show off+(i+1) * sz=off+sz+i * sz by rw [Nat.add_mul];omega]at this
    simpa using this)
   refine⟨y::ys,c ++ css,⟨c,css,x.1,elems.map (·.1),rfl,rfl,hy,h1⟩,by simp [h2],by simp [hcl,h3,Nat.add_mul];omega,fun j u hj=> ?_⟩
   rcases Nat.lt_or_ge j sz with hlt | hge
   . rw [List.getElem?_append_left (by omega)]at hj
     have:=hcell j hlt
     rw [add_add,hj]at this
     exact this
   . rw [List.getElem?_append_right (by omega),hcl]at hj
     have:=h4 _ _ hj
     rw [show off+sz+(j - sz)=off+j by omega]at this
     exact this
theorem F0.one {H α :Type} {Φ : α ->List Value ->DataW H ->Prop} (h1:∀y c d, Φ y c d ->∀u∈c,u.oneCell'=true):∀ {ys:List α} {css:List Value} {ds:List (DataW H)},F0 Φ ys css ds ->∀u∈css,u.oneCell'=true
 | [],css,ds,h=>by obtain⟨rfl, -⟩:=h;simp
 | y::ys,css,ds,h=>by
   obtain⟨c,cs,d,ds',rfl,rfl,hy,hr⟩:=h
   intro u hu
   rcases List.mem_append.1 hu with hu | hu
   . exact h1 y c d hy u hu
   . exact F0.one h1 hr u hu
theorem vJ {H α :Type} {enc:TypeId×Value ->H} {P:Program} {W:World} {fuel:Nat} {t e:TypeId} {sz:Nat} (Φ : α ->List Value ->DataW H ->Prop) (ht:P.underlying t=some (.slice e)) (hs:P.cellsOf e=sz) (hpos:0 < sz)
 (hΦ :∀m cs x,m < fuel ->DataW.trod enc P W 0 (fun _=>true) true m e cs=some x ->∃y, Φ y cs x.1) (h1:∀y c d, Φ y c d ->∀u∈c,u.oneCell'=true)
 {cs:List Value} {x:DataW H×List MemPlace} (h:DataW.trod enc P W 0 (fun _=>true) true fuel t cs=some x):
 ∃a cap ys css ds,cs= [.slice a ys.length cap]/\RowA W W.heap.size sz a ys.length cap css/\F0 Φ ys css ds/\(x.1= .nil/\ys= []/\ds= []∨ ∃sp,x.1= .slice ds sp):=by
 rcases DataW.trod_slice ht h with⟨rfl,rfl⟩ | ⟨a,len,cap,elems,rest,n,rfl,rfl,rfl,hb,hl,hm,hel,hall, -, -⟩
 . exact⟨none,0, [], [], [],rfl,RowA.empty _ _ _,⟨rfl,rfl⟩, .inl ⟨rfl,rfl,rfl⟩⟩
 . rw [hs]at hall
   obtain⟨ys,css,g1,g2,g3,g4⟩:=e_K (fuel:=n) Φ (fun cs x hx=>hΦ n cs x (Nat.lt_succ_self n) hx) elems a 0 (fun i hi=>by
    have:=hall i (by omega)
    rw [Nat.zero_add];exact this)
   have hyl:ys.length=len:=by omega
   subst hyl
   refine⟨some a,cap,ys,css,elems.map (·.1),rfl,⟨by rw [g3,hel],hl,hm,F0.one h1 g1,(fun h=>by cases h),fun hne=> ?_⟩,g1, .inr ⟨_,rfl⟩⟩
   have hpos':0 < css.length:=List.length_pos_iff.2 hne
   have h0:=g4 0 _ (List.getElem?_eq_getElem hpos')
   obtain⟨b,off,spot⟩:=a
   have hspot:spot=none:=by simpa [Addr.add]using World.cell?_spot h0
   subst hspot
   refine⟨b,off,rfl, ?_,fun j u hj=> ?_⟩
   . have:=World.block_lt_of_cell? W _ h0
     simpa [EY]using this
   . have:=g4 j u hj
     rw [Nat.zero_add,EY]at this
     exact this
theorem DK (s:ByteArray):(⟨s.data.toList.toArray⟩:ByteArray)=s:=by cases s;simp
def PropΦ {H:Type} (p:eK) (cs:List Value) (d:DataW H):Prop:=cs= [.string ⟨p.1.toArray⟩, .string ⟨p.2.toArray⟩]/\2+p.1.length+p.2.length <= Rows.uptoBulk d
theorem d_X {H:Type} {enc:TypeId×Value ->H} {P:Program} {W:World} {fuel:Nat} {t:TypeId} {f0 f1:Field} (hs:P.underlying t=some (.struct #[f0,f1])) (hc:P.cellsOf t=2) (h0:P.underlying f0.type=some .string) (h1:P.underlying f1.type=some .string)
 (c0:P.cellsOf f0.type=1) (c1:P.cellsOf f1.type=1) (o0:f0.offset=0) (o1:f1.offset=1) {cs:List Value} {x:DataW H×List MemPlace} (h:DataW.trod enc P W 0 (fun _=>true) true fuel t cs=some x):∃p,PropΦ p cs x.1:=by
 obtain⟨xs,n,rfl,rfl,hl,hx,hf⟩:=DataW.trod_struct hs h
 rw [hc]at hl
 match xs,hx,cs,hl with
 | [y0,y1],_, [v0,v1],_=>
   have g0:=hf 0 f0 rfl
   have g1:=hf 1 f1 rfl
   simp [o0,o1,c0,c1]at g0 g1
   obtain⟨s0,e0,rfl,m0⟩:=DataW.trod_string h0 g0
   obtain⟨s1,e1,rfl,m1⟩:=DataW.trod_string h1 g1
   simp at e0 e1
   subst e0;subst e1
   refine⟨(s0.data.toList,s1.data.toList), ?_, ?_⟩
   . simp only [DK]
   . simp [Rows.uptoBulk,Rows.uptoBulkAll];omega
theorem b_a {H:Type}:∀ {ps:List eK} {css:List Value} {ds:List (DataW H)},F0 PropΦ ps css ds ->css=bK ps/\gX ps <= Rows.uptoBulkAll ds
 | [],css,ds,h=>by obtain⟨rfl,rfl⟩:=h;exact⟨rfl,by simp [gX]⟩
 | p::ps,css,ds,h=>by
   obtain⟨c,cs,d,ds',rfl,rfl,⟨rfl,hb⟩,hr⟩:=h
   obtain⟨rfl,h2⟩:=b_a hr
   exact⟨by simp [bK],by simp only [gX,Rows.uptoBulkAll];omega⟩
theorem b_Q {H:Type} {k:IntKind}:∀ {zs:List Int} {css:List Value} {ds:List (DataW H)},F0 (fun z cs d=>cs= [.int k z]/\(Lit.int k z).wf=true/\1 <= Rows.uptoBulk (H:=H) d) zs css ds ->
 css=zs.map (Value.int k)/\(∀z∈zs,(Lit.int k z).wf=true)/\zs.length <= Rows.uptoBulkAll ds
 | [],css,ds,h=>by obtain⟨rfl,rfl⟩:=h;exact⟨rfl,by simp,by simp⟩
 | z::zs,css,ds,h=>by
   obtain⟨c,cs,d,ds',rfl,rfl,⟨rfl,hw,hb⟩,hr⟩:=h
   obtain⟨rfl,h2,h3⟩:=b_Q hr
   exact⟨by simp,by simpa using ⟨hw,h2⟩,by simp only [List.length_cons,Rows.uptoBulkAll];omega⟩
def NodeΦ {H:Type} (W:World) (n:aK) (cs:List Value) (d:DataW H):Prop:=dJ W W.heap.size n cs/\n.wt <= Rows.uptoBulk d
theorem b_R {H:Type} {W:World}:∀ {ks:List aK} {css:List Value} {ds:List (DataW H)},F0 (NodeΦ W) ks css ds ->dQ W W.heap.size ks css/\dX ks <= Rows.uptoBulkAll ds
 | [],css,ds,h=>by obtain⟨rfl,rfl⟩:=h;exact⟨by unfold dQ;rfl,by simp [dX]⟩
 | k::ks,css,ds,h=>by
   obtain⟨c,cs,d,ds',rfl,rfl,⟨hk,hb⟩,hr⟩:=h
   obtain⟨h2,h3⟩:=b_R hr
   exact⟨by unfold dQ;exact⟨c,cs,rfl,hk,h2⟩,by simp only [dX,Rows.uptoBulkAll];omega⟩
theorem yV {H:Type} {d:DataW H} {ds:List (DataW H)} {n:Nat} (h:d= .nil/\n=0/\ds= []∨ ∃sp,d= .slice ds sp):Rows.uptoBulkAll ds+1 <= Rows.uptoBulk d:=by
 rcases h with⟨rfl, -,rfl⟩ | ⟨sp,rfl⟩
 . simp [Rows.uptoBulk,Rows.uptoBulkAll]
 . simp only [Rows.uptoBulk];omega
theorem d_Y {H:Type} {enc:TypeId×Value ->H} {W:World}:∀ (fuel:Nat) (cs:List Value) (x:DataW H×List MemPlace),DataW.trod enc Tryz.prog W 0 (fun _=>true) true fuel 35 cs=some x ->∃n,NodeΦ W n cs x.1:=by
 intro fuel
 induction fuel using Nat.strongRecOn with
 | _ fuel ih=>
   intro cs x h
   obtain⟨xs,n,rfl,rfl,hl,hx,hf⟩:=DataW.trod_struct Tryz.underlying35 h
   rw [show Tryz.prog.cellsOf 35=4 by kernel_rfl]at hl
   match xs,hx,cs,hl with
   | [y0,y1,y2,y3],_, [v0,v1,v2,v3],_=>
     have g0:=hf 0 _ rfl
     have g1:=hf 1 _ rfl
     have g2:=hf 2 _ rfl
     have g3:=hf 3 _ rfl
     have k0:Tryz.prog.cellsOf 4=1:=by kernel_rfl
     have k1:Tryz.prog.cellsOf 31=1:=by kernel_rfl
     have k2:Tryz.prog.cellsOf 32=1:=by kernel_rfl
     have k3:Tryz.prog.cellsOf 33=1:=by kernel_rfl
     simp [k0,k1,k2,k3]at g0 g1 g2 g3
     obtain⟨b,e0,rfl⟩:=DataW.trod_bool Tryz.underlying4 g0
     obtain⟨a1,c1,ps,css1,ds1,e1,r1,el1,s1⟩:=vJ PropΦ Tryz.underlying31 (show Tryz.prog.cellsOf 138=2 by kernel_rfl) (by decide)
      (fun m cs x _ hx=>d_X Tryz.underlying138 (by kernel_rfl) Tryz.underlying9 Tryz.underlying9 (by kernel_rfl) (by kernel_rfl) rfl rfl hx) (fun y c d hh=>by obtain⟨rfl, -⟩:=hh;intro u hu;simp at hu;rcases hu with rfl | rfl <;> rfl) g1
     obtain⟨a2,c2,zs,css2,ds2,e2,r2,el2,s2⟩:=vJ (fun z cs d=>cs= [.int .i32 z]/\(Lit.int .i32 z).wf=true/\1 <= Rows.uptoBulk (H:=H) d) Tryz.underlying32 (show Tryz.prog.cellsOf 21=1 by kernel_rfl) (by decide)
      (fun m cs x _ hx=>by
        obtain⟨z,rfl,rfl,hw⟩:=DataW.trod_int Tryz.underlying21 hx
        exact⟨z,rfl,hw,by simp [Rows.uptoBulk]⟩) (fun y c d hh=>by obtain⟨rfl, -⟩:=hh;intro u hu;simp at hu;subst hu;rfl) g2
     obtain⟨a3,c3,ks,css3,ds3,e3,r3,el3,s3⟩:=vJ (NodeΦ W) Tryz.underlying33 (show Tryz.prog.cellsOf 35=4 by kernel_rfl) (by decide)
      (fun m cs x hm hx=>ih m (by omega) cs x hx) (fun y c d hh=>hh.1.one) g3
     simp at e0 e1 e2 e3
     subst e0;subst e1;subst e2;subst e3
     obtain⟨rfl,b1⟩:=b_a el1
     obtain⟨rfl,hw,b2⟩:=b_Q el2
     obtain⟨hk,b3⟩:=b_R el3
     refine⟨.mk b ps zs ks, ?_, ?_⟩
     . unfold dJ
       exact⟨a1,c1,a2,c2,a3,c3,css3,rfl,r1,r2,hw,r3,hk⟩
     . have m1:=yV (n:=0) (s1.imp (fun h=>⟨h.1,rfl,h.2.2⟩) id)
       have m2:=yV (n:=0) (s2.imp (fun h=>⟨h.1,rfl,h.2.2⟩) id)
       have m3:=yV (n:=0) (s3.imp (fun h=>⟨h.1,rfl,h.2.2⟩) id)
       simp only [aK.wt,List.map_cons,List.map_nil,Rows.uptoBulk,Rows.uptoBulkAll]
       omega
end Go.Proofs.YtmadpclcmjahoaaGreatDoor
