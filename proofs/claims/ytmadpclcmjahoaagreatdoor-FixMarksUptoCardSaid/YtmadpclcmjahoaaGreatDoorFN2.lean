/- Parts of the proof: 2. -/
import Derived.Test.YtmadpclcmjahoaaGreatDoorFN1
import Derived.Lib.BufferMore
import Derived.Lib.Builder
import Derived.Deep.RegionLaw
import Derived.Test.YtmadpclcmjahoaaGreatDoorProg
import Derived.Deep.QuietTactic
import Derived.BigQuiet
import Derived.Deep.LoopGhost
import Derived.Deep.DeepCutAuto
set_option linter.unusedVariables false
set_option linter.unusedSimpArgs false
set_option maxHeartbeats 8000000
set_option maxRecDepth 100000
namespace Go.Proofs.YtmadpclcmjahoaaGreatDoor
open Go.RowKit Go.Redl
def b6 (w:World) (N:Nat) (c0 c1 c2 c3:Value):Prop:=w.heap[N]? =some (.cells #[c0,c1,c2,c3] 35 (0,0))
theorem b6.facts {w:World} {N:Nat} {c0 c1 c2 c3:Value} (h:b6 w N c0 c1 c2 c3):
 w.cell? ⟨N,0,none⟩=some c0/\w.cell? ⟨N,1,none⟩=some c1/\w.cell? ⟨N,2,none⟩=some c2/\w.cell? ⟨N,3,none⟩=some c3/\
  (w.frozen? ⟨N,0,none⟩=false/\w.frozen? ⟨N,1,none⟩=false/\w.frozen? ⟨N,2,none⟩=false/\w.frozen? ⟨N,3,none⟩=false)/\N < w.heap.size:=by
 refine⟨?_, ?_, ?_, ?_,⟨?_, ?_, ?_, ?_⟩,(Array.getElem?_eq_some_iff.1 h).1⟩
 all_goals first
  | exact Lib.frozen_of_heap h _
  | (rw [Lib.cell_of_heap h];rfl)
theorem b6.fresh (W:World) (c0 c1 c2 c3:Value):b6 (W.alloc (.cells #[c0,c1,c2,c3] 35)) W.heap.size c0 c1 c2 c3:=heap_alloc_new W _
theorem b6.keep {w w':World} {N:Nat} {c0 c1 c2 c3:Value} (h:b6 w N c0 c1 c2 c3) (hb:Below (N+1) w w'):b6 w' N c0 c1 c2 c3:=by
 unfold b6;rw [hb.block N (by omega)];exact h
theorem b6.alloc {w:World} {N:Nat} {c0 c1 c2 c3:Value} (h:b6 w N c0 c1 c2 c3) (o:Obj):b6 (w.alloc o) N c0 c1 c2 c3:=by
 unfold b6;rw [Lib.alloc_old _ _ _ (Array.getElem?_eq_some_iff.1 h).1];exact h
theorem b6.all {w:World} {N:Nat} {c0 c1 c2 c3:Value} (h:b6 w N c0 c1 c2 c3) (d0 d1 d2 d3:Value):b6 ((((w.setCell ⟨N,0,none⟩ d0).setCell ⟨N,1,none⟩ d1).setCell ⟨N,2,none⟩ d2).setCell ⟨N,3,none⟩ d3) N d0 d1 d2 d3:=by
 have h0:=Lib.heap_setCell_same (i:=0) h d0
 have h1:=Lib.heap_setCell_same (i:=1) h0 d1
 have h2:=Lib.heap_setCell_same (i:=2) h1 d2
 exact Lib.heap_setCell_same (i:=3) h2 d3
theorem b6.set {w:World} {N b o:Nat} {c0 c1 c2 c3 u:Value} (h:b6 w N c0 c1 c2 c3) (hne:N≠b):b6 (w.setCell ⟨b,o,none⟩ u) N c0 c1 c2 c3:=by
 unfold b6;rw [Below.heap_setCell _ _ _ _ hne];exact h
theorem m8 (w:World) (o:Obj) (c0 c1 c2 c3:Value):b6 ((w.alloc o).alloc (.cells #[c0,c1,c2,c3] 35)) (w.heap.size+1) c0 c1 c2 c3:=by
 have h:=b6.fresh (w.alloc o) c0 c1 c2 c3
 have e:(w.alloc o).heap.size=w.heap.size+1:=by simp
 rwa [e]at h
theorem b6.s1 {w:World} {M:Nat} {c0 c1 c2 c3:Value} (h:b6 w M c0 c1 c2 c3) (u:Value):b6 (w.setCell ⟨M,1,none⟩ u) M c0 u c2 c3:=Lib.heap_setCell_same (i:=1) h _
theorem b6.s2 {w:World} {M:Nat} {c0 c1 c2 c3:Value} (h:b6 w M c0 c1 c2 c3) (u:Value):b6 (w.setCell ⟨M,2,none⟩ u) M c0 c1 u c3:=Lib.heap_setCell_same (i:=2) h _
theorem b6.s3 {w:World} {M:Nat} {c0 c1 c2 c3:Value} (h:b6 w M c0 c1 c2 c3) (u:Value):b6 (w.setCell ⟨M,3,none⟩ u) M c0 c1 c2 u:=Lib.heap_setCell_same (i:=3) h _
theorem iQ {B:Nat} {W w:World} {N:Nat} (h:Below B W w) (hN:B <= N) (d0 d1 d2 d3:Value):Below B W ((((w.setCell ⟨N,0,none⟩ d0).setCell ⟨N,1,none⟩ d1).setCell ⟨N,2,none⟩ d2).setCell ⟨N,3,none⟩ d3):=
 (((h.setCell (p:=⟨N,0,none⟩) hN _).setCell (p:=⟨N,1,none⟩) hN _).setCell (p:=⟨N,2,none⟩) hN _).setCell (p:=⟨N,3,none⟩) hN _
theorem aY {w:World} {ok:Nat ->Prop} {sz n cap N o:Nat} {a:Option Addr} {cs:List Value} {u:Value} (h:RowQ w ok sz a n cap cs) (hne:¬ok N):RowQ (w.setCell ⟨N,o,none⟩ u) ok sz a n cap cs:=
 h.keep (by simp [World.setCell]) (fun b hb _=>Below.heap_setCell w _ u b (fun e=>hne (by rw [<- show b=N from e];exact hb))) (fun _ hb _=>hb)
theorem cQ {w:World} {ok:Nat ->Prop} {N o:Nat} {n:aK} {cs:List Value} {u:Value} (h:NodeQ w ok n cs) (hne:¬ok N):NodeQ (w.setCell ⟨N,o,none⟩ u) ok n cs:=
 NodeQ.keep (by simp [World.setCell]) (fun b hb _=>Below.heap_setCell w _ u b (fun e=>hne (by rw [<- show b=N from e];exact hb))) (fun _ hb _=>hb) n cs h
theorem vK {w:World} {ok:Nat ->Prop} {N o:Nat} {n:List aK} {cs:List Value} {u:Value} (h:bX w ok n cs) (hne:¬ok N):bX (w.setCell ⟨N,o,none⟩ u) ok n cs:=
 bX.keep (by simp [World.setCell]) (fun b hb _=>Below.heap_setCell w _ u b (fun e=>hne (by rw [<- show b=N from e];exact hb))) (fun _ hb _=>hb) n cs h
theorem F4 {w:World} {ok:Nat ->Prop} {sz n cap N:Nat} {a:Option Addr} {cs:List Value} (h:RowQ w ok sz a n cap cs) (hne:¬ok N) (d0 d1 d2 d3:Value):RowQ ((((w.setCell ⟨N,0,none⟩ d0).setCell ⟨N,1,none⟩ d1).setCell ⟨N,2,none⟩ d2).setCell ⟨N,3,none⟩ d3) ok sz a n cap cs:=
 aY (aY (aY (aY h hne) hne) hne) hne
theorem h_Z {w:World} {ok:Nat ->Prop} {N:Nat} {ks:List aK} {cs:List Value} (h:bX w ok ks cs) (hne:¬ok N) (d0 d1 d2 d3:Value):bX ((((w.setCell ⟨N,0,none⟩ d0).setCell ⟨N,1,none⟩ d1).setCell ⟨N,2,none⟩ d2).setCell ⟨N,3,none⟩ d3) ok ks cs:=
 vK (vK (vK (vK h hne) hne) hne) hne
theorem oK {w:World} {base e sz n:Nat} {v:Value} {cs:List Value} (h:w.ownsRow base e sz v n cs) (h1:∀u∈cs,u.oneCell'=true):∃a cap,v= .slice a n cap/\RowQ w (fun b=>base <= b) sz a n cap cs:=by
 obtain⟨a,cap,hv,hr⟩:=RowQ.of_own h h1
 exact⟨a,cap,hv,hr.keep (a8) (fun _ _ _=>rfl) (fun b hb _=>(h.lt b hb).1)⟩
theorem KJ {P:Program} {ops:Array Oper} {o:Oper} {a:Act} {w:World} {K:Act ->World ->Prop} {Q:Exit ->Act ->World ->Prop} {E:Prop}
 (hg:o.guard=none) (s x:Operand) (t:TypeId) (ho:o.op= .call { callee:= .builtin .append,args:= #[s,x],argTypes:= #[t,t] })
 (base:Nat) (e:TypeId) (z:Value) (size bytes:Nat) (ht:P.underlying t=some (.slice e)) (hi:(P.info? e).map (fun i=>(i.zero,i.size,i.bytes))=some (some z,size,bytes))
 (hzs:z.cells.size=size) (hsz:0 < size)
 (v:Value) (n:Nat) (xs:List Value) (hs:a.eval s=v) (hown:w.ownsRow base e size v n xs)
 (ad:Addr) (m c B:Nat) (news:List Value) (hx:a.eval x= .slice (some ad) m c) (hr:RowA w B size (some ad) m c news)
 (h63:n+m <= maxLen) (hbytes:(n+m) * bytes <= 140737488355328) (hbase:base <= w.heap.size)
 (h:∀v' w',w'.ownsRow base e size v' (n+m) (xs ++ news) ->w.grownBy w' v.ownBlock ->(v'.ownBlock=v.ownBlock∨ ∀k,v'.ownBlock=some k ->w.heap.size <= k) ->K (a.put o.dst v') w'):if Region.wanted o (yielded ops a.tmps)=true then Oper.wp P o a w K Q else E:=by
 have hw:Region.wanted o (yielded ops a.tmps)=true:=by simp [Region.wanted,hg]
 rw [if_pos hw]
 obtain⟨i,hi',hz,hsize,hby⟩:=info_parts hi
 obtain⟨v',w',hrun,h2,h3,h4⟩:=LJ (P:=P) w base t o.type e i z size bytes ht hi' hz hsize hby hzs hsz v n xs hown ad m c news hr.len hr.cells hr.one h63 hbytes hbase
 unfold Oper.wp execOp
 simp only [ho,resolve,invoke,builtin,Sem.run_bind,Sem.run_pure,Result.andThen_ok,List.map_toArray,List.map_cons,List.map_nil,hs,hx,hrun]
 exact h v' w' h2 h3 h4
theorem yX {w w1:World} {c0 c1:Value} {T:TypeId} (hb:Below (w.heap.size+1) (w.alloc (.cells #[c0,c1] T)) w1):
 w1.cell? ⟨w.heap.size,0,none⟩=some c0/\w1.cell? ⟨w.heap.size,1,none⟩=some c1:=by
 have h:w1.heap[w.heap.size]? =some (.cells #[c0,c1] T (0,0)):=by
  rw [hb.block w.heap.size (by omega)]
  exact heap_alloc_new w _
 refine⟨?_, ?_⟩ <;> (rw [cell_of_row _ _ _ _ _ _ h];rfl)
theorem fV {B:Nat} {w w1 w2:World} (h:Below B w w1) (h2:Below w1.heap.size w1 w2) (hB:B <= w.heap.size):Below B w w2:=
 h.trans (h2.mono (aJ hB h.size))
theorem F5 {w w1:World} {c0 c1 c2 c3:Value} {T:TypeId} (hb:Below (w.heap.size+1) (w.alloc (.cells #[c0,c1,c2,c3] T)) w1):
 w1.cell? ⟨w.heap.size,0,none⟩=some c0/\w1.cell? ⟨w.heap.size,1,none⟩=some c1/\w1.cell? ⟨w.heap.size,2,none⟩=some c2/\w1.cell? ⟨w.heap.size,3,none⟩=some c3:=by
 have h:w1.heap[w.heap.size]? =some (.cells #[c0,c1,c2,c3] T (0,0)):=by
  rw [hb.block w.heap.size (by omega)]
  exact heap_alloc_new w _
 refine⟨?_, ?_, ?_, ?_⟩ <;> (rw [cell_of_row _ _ _ _ _ _ h];rfl)
theorem fY {w w1:World} {o:Obj} (hb:Below (w.alloc o).heap.size (w.alloc o) w1):Below (w.heap.size+1) (w.alloc o) w1:=by
 have:(w.alloc o).heap.size=w.heap.size+1:=by simp
 rwa [this]at hb
theorem gZ {w w1:World} {o:Obj} (hb:Below (w.heap.size+1) (w.alloc o) w1):Below w.heap.size w w1:=
 ((Below.refl w.heap.size w).alloc (a8) o).trans (hb.mono (by omega))
theorem b_S {w w1:World} {o o':Obj} (hb:Below (w.heap.size+1) (w.alloc o) w1):Below (w.heap.size+1) (w.alloc o) (w1.alloc o'):=
 hb.alloc (by have:=hb.size;simp at this;omega) o'
theorem d_i (w:World) (o:Obj):Below w.heap.size w (w.alloc o):=(a7).alloc (a8) o
theorem d_j {w:World} {B cap n:Nat} {a:Option Addr} {cs:List Value} {sz:Nat} (h:RowA w B sz a n cap cs):n <= 9223372036854775807:=by
 have h1:=h.le;have h2:=h.max;unfold maxLen at h2;omega
theorem LY:(Tryz.prog.info? 21).map (fun i=>(i.zero,i.size,i.bytes))=some (some (.int .i32 0),1,4):=by kernel_rfl
theorem l_f (c:Int) (w:World):
 Calls Tryz.prog 172 #[.int .i32 c] w fun e w'=>e= .returned (.bool (G4 c))/\w=w':=by
 go_enter Tryz.func172,Tryz.ntmps172
 go_wp2
 all_goals (go_ret;refine⟨b7 ?_,rfl⟩;unfold G4;simp;try omega)
theorem j_c (c:Int) (w:World):
 Calls Tryz.prog 171 #[.int .i32 c] w fun e w'=>e= .returned (.bool (!G4 c))/\w=w':=by
 go_enter Tryz.func171,Tryz.ntmps171
 go_wp2_with (go_at_call 172;refine(l_f _ _).mono ?_;rintro e w' ⟨rfl,rfl⟩)
 go_ret
 exact⟨rfl,rfl⟩
theorem b_T (v:Value) (B:Nat) (zs:List Int) (fid:Nat) (caps:Array Value) (p:Int ->Bool) (w:World)
 (hv:b_P .i32 w B v zs) (he:∀args w,(callFunc fid args).run Tryz.prog w= .ok (.enter fid args) w)
 (hf:∀x,x∈zs ->Calls Tryz.prog fid (#[.int .i32 x] ++ caps) w fun e w'=>e= .returned (.bool (p x))/\w=w'):
 Calls Tryz.prog 232 #[v, .func (.func fid) #[] caps] w fun e w'=>e= .returned (.int .i64 (idx p zs))/\w=w':=by
 have Hf:=a6 hf;clear hf
 obtain⟨⟨a,cap,rfl,hr⟩, -⟩:=hv
 have hm:zs.length <= 9223372036854775807:=by have h1:=hr.le;have h2:=hr.max;unfold maxLen at h2;omega
 go_enter Tryz.func232,Tryz.ntmps232
 go_wp2_with fail
 go_loop [8] (fun i=>∃k:Nat,k <= zs.length/\i= .int .i64 k/\g_3 p zs k) (fun i=>zs.length - (intOf i).toNat)
 case atStart=>exact⟨0,Nat.zero_le _,rfl,h_W p zs⟩
 case round=>
  obtain⟨k,hk,rfl,hp⟩:=hrel
  have Hp:=a6 hp;clear hp
  by_cases hlt:k < zs.length
  . obtain ⟨b,off,rfl,hb,hcell⟩:=hr.int_at k hlt
    have hcell:=hcell k hlt
    have hin:zs[k]∈zs:=List.getElem_mem hlt
    go_wp2_with fail
    refine(Hf.o zs[k] hin).mono ?_
    rintro e w' ⟨rfl,rfl⟩
    cases hpk:p zs[k]
    . go_wp2_with fail
      go_round
      case rel=>exact⟨k+1,by omega,by go_num,h_X Hp.o hlt hpk⟩
      case measure=>simp [intOf];omega
    . go_wp2_with fail
      go_ret
      exact⟨cY (m_E Hp.o hlt hpk).symm,rfl⟩
  . go_wp2_with fail
    go_ret
    obtain rfl:k=zs.length:=by omega
    exact⟨cY (j_a Hp.o).symm,rfl⟩
theorem a_d (v:Value) (B:Nat) (zs:List Int) (fid:Nat) (caps:Array Value) (p:Int ->Bool) (w:World)
 (hv:b_P .i32 w B v zs) (he:∀args w,(callFunc fid args).run Tryz.prog w= .ok (.enter fid args) w)
 (hf:∀x,x∈zs ->Calls Tryz.prog fid (#[.int .i32 x] ++ caps) w fun e w'=>e= .returned (.bool (p x))/\w=w'):
 Calls Tryz.prog 170 #[v, .func (.func fid) #[] caps] w fun e w'=>e= .returned (.bool (zs.any p))/\w=w':=by
 have H:=a6 (b_T v B zs fid caps p w hv he hf);clear hf hv
 have Hx:=a6 (l_e p zs)
 go_enter Tryz.func170,Tryz.ntmps170
 go_wp2_with fail
 refine H.o.mono ?_
 rintro e w' ⟨rfl,rfl⟩
 go_wp2_with fail
 go_ret
 exact⟨b7 Hx.o,rfl⟩
def LZ (zs:List Int):Int:=if zs.any (fun c=> !G4 c) then 4 else 0
theorem l_g (v:Value) (B:Nat) (zs:List Int) (w:World) (hv:b_P .i32 w B v zs):
 Calls Tryz.prog 105 #[v] w fun e w'=>e= .returned (.int .i64 (LZ zs))/\w=w':=by
 have H:=a6 (a_d v B zs 171 #[] (fun c=> !G4 c) w hv (by intro args w;kernel_rfl) (fun x _=>j_c x w));clear hv
 have Hx:Hid (LZ zs=if zs.any (fun c=> !G4 c) then 4 else 0):=rfl
 go_enter Tryz.func105,Tryz.ntmps105
 go_wp2_with fail
 refine H.o.mono ?_
 rintro e w' ⟨rfl,rfl⟩
 clear H
 cases h:zs.any (fun c=> !G4 c) <;> rw [h]at Hx
 . go_wp2_with fail
   go_ret
   exact⟨cY (by rw [Hx.o];rfl),rfl⟩
 . go_wp2_with fail
   go_ret
   exact⟨cY (by rw [Hx.o];rfl),rfl⟩
theorem g_4 (v1 v2:Value) (B:Nat) (xs ys:List Int) (w:World) (h1:b_P .i32 w B v1 xs) (h2:b_P .i32 w B v2 ys):
 Calls Tryz.prog 159 #[v1,v2] w fun e w'=>e= .returned (.bool (decide (xs=ys)))/\mX w w':=by
 obtain⟨⟨a,cap,rfl,hr⟩, -⟩:=h1
 obtain⟨⟨a',cap',rfl,hr'⟩, -⟩:=h2
 have hm:xs.length <= 9223372036854775807:=by have h1:=hr.le;have h2:=hr.max;unfold maxLen at h2;omega
 have hm':ys.length <= 9223372036854775807:=by have h1:=hr'.le;have h2:=hr'.max;unfold maxLen at h2;omega
 by_cases hl:xs.length=ys.length
 . go_enter Tryz.func159,Tryz.ntmps159
   have hle:ys.length <= xs.length:=by omega
   have hle':xs.length <= ys.length:=by omega
   have hne:(((xs.length:Nat):Int) != (ys.length:Int))=false:=by simp [hl]
   have Hl:=a6 hl;clear hl
   go_wp2_with fail
   go_loopw [13] (fun i wr=>∃k:Nat,k <= xs.length/\i= .int .i64 k/\C3 xs ys k/\mX w wr) (fun i _=>xs.length - (intOf i).toNat)
   case atStart=>exact⟨0,Nat.zero_le _,rfl,D8 _ _,⟨0,rfl⟩⟩
   case round=>
    obtain⟨k,hk,rfl,hp,q,rfl⟩:=hrel
    have Hp:=a6 hp;clear hp
    by_cases hlt:k < xs.length
    . obtain ⟨b,off,rfl,hb,hcell⟩:=hr.int_at k hlt
      obtain⟨b',off',rfl,hb',hcell'⟩:=hr'.int_at k (by omega)
      have hcell:=hcell k hlt
      have hcell':=hcell' k (by omega)
      have hlt':k < ys.length:=by omega
      rw [fJ hlt]at hcell
      rw [fJ hlt']at hcell'
      go_wp2_with fail
      by_cases he:xs[k]=ys[k]
      . have hne:(xs[k] != ys[k])=false:=by simp [he]
        have He:=a6 he;clear he
        go_quiet (fail)
        go_wp2_with fail
        go_roundw
        case rel=>exact⟨k+1,by omega,by go_num,D9 Hp.o hlt hlt' He.o,by first | exact jX _ _ | exact j6 _ _ _⟩
        case measure=>simp [intOf];omega
      . have hne:(xs[k] != ys[k])=true:=by simp [he]
        have He:=a6 he;clear he
        go_quiet (fail)
        go_wp2_with fail
        go_ret
        exact⟨b7 (by simp [IX hlt hlt' He.o]),j6 _ _ _⟩
    . go_wp2_with fail
      go_ret
      obtain rfl:k=xs.length:=by omega
      exact⟨b7 (by simp [G3 Hp.o Hl.o]),jX _ _⟩
 . have hne:(((xs.length:Nat):Int) != (ys.length:Int))=true:=by simp;omega
   have Hl:=a6 hl;clear hl
   go_enter Tryz.func159,Tryz.ntmps159
   go_wp2_with fail
   go_ret
   exact⟨b7 (by simp [show xs≠ys from fun h=>Hl.o (by rw [h])]),C2 _⟩
theorem g_5:(Tryz.prog.info? 138).map (fun i=>(i.zero,i.size,i.bytes))=some (some (.agg #[.string ⟨#[]⟩, .string ⟨#[]⟩]),2,32):=by kernel_rfl
theorem uJ:(Tryz.prog.info? 35).map (fun i=>(i.zero,i.size,i.bytes))=some (some (.agg #[.bool false, .slice none 0 0, .slice none 0 0, .slice none 0 0]),4,80):=by kernel_rfl
theorem yY (B n:Nat) (a:Option Addr) (cap:Nat) (cs:List Value) (w:World) (hr:RowA w B 2 a n cap cs) (hB:B <= w.heap.size) (hn:n <= 100000000):
 Calls Tryz.prog 113 #[.slice a n cap] w (rK w 138 2 n cs):=by
 have hel:=fun(w:World)=>Lib.run_eql_slice_nil w (P:=Tryz.prog) 31 138 a n cap 0 0 Tryz.underlying31
 cases ha:a with
 | none=>
   subst ha
   obtain rfl:=hr.nil rfl
   obtain rfl:n=0:=by have:=hr.le;omega
   have hcs:cs= []:=List.eq_nil_of_length_eq_zero (by simpa using hr.len)
   subst hcs
   go_enter Tryz.func113,Tryz.ntmps113
   go_wp2_with fail
   go_ret
   exact⟨_,rfl,World.ownsRow_nil _ _ _ _,a7⟩
 | some ad=>
   subst ha
   go_enter Tryz.func113,Tryz.ntmps113
   go_wp2_with (at_builtin;refine nY rfl _ _ 31 rfl w.heap.size 138 (.agg #[.string ⟨#[]⟩, .string ⟨#[]⟩]) 2 32 Tryz.underlying31 g_5 rfl (by decide) _ 0 [] rfl ?hown _ n cap B cs rfl ?hr ?h63 ?hb ?hbase ?_)
   case hown=>exact World.ownsRow_lit w #[] 0 (a8) (Nat.zero_le _) rfl
   case hr=>exact hr.keep ((a7).alloc hB _) (a8)
   case h63=>unfold maxLen;omega
   case hb=>omega
   case hbase=>simp
   intro v' w1 hown hgrow
   have Ho:=a6 hown;have Hg:=a6 hgrow;clear hown hgrow hel hr
   go_wp2_with fail
   go_ret
   refine⟨v',rfl,by simpa using Ho.o,((a7).alloc (a8) _).grown Hg.o (by simp) ?_⟩
   simp [Value.ownBlock]
theorem M0 (B n:Nat) (a:Option Addr) (cap:Nat) (cs:List Value) (w:World) (hr:RowA w B 4 a n cap cs) (hB:B <= w.heap.size) (hn:n <= 100000000):
 Calls Tryz.prog 115 #[.slice a n cap] w (rK w 35 4 n cs):=by
 have hel:=fun(w:World)=>Lib.run_eql_slice_nil w (P:=Tryz.prog) 33 35 a n cap 0 0 Tryz.underlying33
 cases ha:a with
 | none=>
   subst ha
   obtain rfl:=hr.nil rfl
   obtain rfl:n=0:=by have:=hr.le;omega
   have hcs:cs= []:=List.eq_nil_of_length_eq_zero (by simpa using hr.len)
   subst hcs
   go_enter Tryz.func115,Tryz.ntmps115
   go_wp2_with fail
   go_ret
   exact⟨_,rfl,World.ownsRow_nil _ _ _ _,a7⟩
 | some ad=>
   subst ha
   go_enter Tryz.func115,Tryz.ntmps115
   go_wp2_with (at_builtin;refine nY rfl _ _ 33 rfl w.heap.size 35 (.agg #[.bool false, .slice none 0 0, .slice none 0 0, .slice none 0 0]) 4 80 Tryz.underlying33 uJ rfl (by decide) _ 0 [] rfl ?hown _ n cap B cs rfl ?hr ?h63 ?hb ?hbase ?_)
   case hown=>exact World.ownsRow_lit w #[] 0 (a8) (Nat.zero_le _) rfl
   case hr=>exact hr.keep ((a7).alloc hB _) (a8)
   case h63=>unfold maxLen;omega
   case hb=>omega
   case hbase=>simp
   intro v' w1 hown hgrow
   have Ho:=a6 hown;have Hg:=a6 hgrow;clear hown hgrow hel hr
   go_wp2_with fail
   go_ret
   refine⟨v',rfl,by simpa using Ho.o,((a7).alloc (a8) _).grown Hg.o (by simp) ?_⟩
   simp [Value.ownBlock]
theorem DQ (B n:Nat) (a:Option Addr) (cap:Nat) (cs:List Value) (w:World) (hr:RowA w B 1 a n cap cs) (hB:B <= w.heap.size) (hn:n <= 100000000):
 Calls Tryz.prog 114 #[.slice a n cap] w (rK w 21 1 n cs):=by
 have hel:=fun(w:World)=>Lib.run_eql_slice_nil w (P:=Tryz.prog) 32 21 a n cap 0 0 Tryz.underlying32
 cases ha:a with
 | none=>
   subst ha
   obtain rfl:=hr.nil rfl
   obtain rfl:n=0:=by have:=hr.le;omega
   have hcs:cs= []:=List.eq_nil_of_length_eq_zero (by simpa using hr.len)
   subst hcs
   go_enter Tryz.func114,Tryz.ntmps114
   go_wp2_with fail
   go_ret
   exact⟨_,rfl,World.ownsRow_nil _ _ _ _,a7⟩
 | some ad=>
   subst ha
   go_enter Tryz.func114,Tryz.ntmps114
   go_wp2_with (at_builtin;refine nY rfl _ _ 32 rfl w.heap.size 21 (.int .i32 0) 1 4 Tryz.underlying32 LY rfl (by decide) _ 0 [] rfl ?hown _ n cap B cs rfl ?hr ?h63 ?hb ?hbase ?_)
   case hown=>exact World.ownsRow_lit w #[] 0 (a8) (Nat.zero_le _) rfl
   case hr=>exact hr.keep ((a7).alloc hB _) (a8)
   case h63=>unfold maxLen;omega
   case hb=>omega
   case hbase=>simp
   intro v' w1 hown hgrow
   have Ho:=a6 hown;have Hg:=a6 hgrow;clear hown hgrow hel hr
   go_wp2_with fail
   go_ret
   refine⟨v',rfl,by simpa using Ho.o,((a7).alloc (a8) _).grown Hg.o (by simp) ?_⟩
   simp [Value.ownBlock]
theorem d_Z:∀args w,(callFunc 113 args).run Tryz.prog w= .ok (.enter 113 args) w:=by intro args w;kernel_rfl
theorem e_0:∀args w,(callFunc 114 args).run Tryz.prog w= .ok (.enter 114 args) w:=by intro args w;kernel_rfl
theorem e_1:∀args w,(callFunc 115 args).run Tryz.prog w= .ok (.enter 115 args) w:=by intro args w;kernel_rfl
theorem IY:∀args w,(callFunc 61 args).run Tryz.prog w= .ok (.enter 61 args) w:=by intro args w;kernel_rfl
theorem KK {w1 w3:World} {b1 b3 e e' sz sz' n n' c M:Nat} {a:Option Addr} {u:Value} {cs cs':List Value} (h1:w1.ownsRow b1 e sz (.slice a n c) n cs) (ho:∀u∈cs,u.oneCell'=true) (hb:Below w1.heap.size w1 w3) (h3:w3.ownsRow b3 e' sz' u n' cs') (hle:w1.heap.size <= b3) (hM:M <= b1):
 RowQ w3 (fun b=>M <= b/\u.ownBlock≠some b) sz a n c cs:=by
 obtain⟨a',c',hv,hr⟩:=RowQ.of_own h1 ho
 injection hv with e1 e2 e3
 subst e1;subst e3
 refine hr.keep hb.size (fun b _ hlt=>hb.block b hlt) (fun b hk hlt=>⟨aJ hM (h1.lt b hk).1,fun hu=> ?_⟩)
 have:=(h3.lt b hu).1
 omega
theorem A6 {w:World} {base e sz n c:Nat} {a:Option Addr} {cs:List Value} (h:w.ownsRow base e sz (.slice a n c) n cs) (hne:cs≠ []):∃g,a=some ⟨g,0,none⟩/\base <= g:=by
 rcases h.2 with⟨h',h2⟩ | ⟨g,cap,cur,h',hb,hg, -⟩
 . have:=h.1
   rw [h2]at this
   exact absurd (List.eq_nil_of_length_eq_zero (by simpa using this)) hne
 . injection h' with e1 e2 e3
   exact⟨g,e1,hb⟩
theorem bX.len' {w:World} {ok:Nat ->Prop} {ks:List aK} {css:List Value} (h:bX w ok ks css):css.length=ks.length * 4:=(bX.kids _ _ h).len
theorem b_U {p q r:List Value} {k:Nat} {a b c d u0 u1 u2 u3:Value} (hk:p.length=k) (hq:q=a::b::c::d::r):((((p ++ q).set k u0).set (k+1) u1).set (k+2) u2).set (k+3) u3=(p ++ [u0,u1,u2,u3]) ++ r:=by
 subst hq;subst hk
 simp
theorem pV {w:World} {base e sz n c g:Nat} {cs:List Value} (h:w.ownsRow base e sz (.slice (some ⟨g,0,none⟩) n c) n cs) (j:Nat) (u:Value) (hu:cs[j]? =some u):w.cell? ⟨g,j,none⟩=some u:=by
 have:=World.ownsRow.cells (g:=g) h rfl j u hu
 rw [EY]at this
 simpa using this
def m_v (W:World) (n:aK) (e:Ending) (w':World):Prop:= ∃cs,e= .returned (.agg cs.toArray)/\NodeQ w' (fun b=>W.heap.size <= b) n cs/\Below W.heap.size W w'
theorem a_N (m:Nat):∀ (n:aK) (v:Value) (W:World),n.wt <= m ->n.wt <= 100000000 ->bY W W.heap.size n v ->Calls Tryz.prog 61 #[v] W (m_v W n):=by
 induction m with
 | zero=>intro n v W hm;have:=G5 n;omega
 | succ m IH=>
   intro n v W hm hbig hv
   obtain⟨l,ps,t,ks⟩:=n
   obtain⟨ap,cp,at_,ct,ak,ck,css,rfl,hp,ht,hk,hkk⟩:=hv.open
   have hwt:dX ks <= m:=by simp only [aK.wt]at hm;omega
   have hpl:ps.length <= 100000000:=by have:=rV ps;simp only [aK.wt]at hbig;omega
   have htl:t.length <= 100000000:=by simp only [aK.wt]at hbig;omega
   have hkl:ks.length <= 100000000:=by have:=fX ks;simp only [aK.wt]at hbig;omega
   have hkw:dX ks <= 100000000:=by simp only [aK.wt]at hbig;omega
   obtain⟨⟨at2,ct2,htv,htr⟩,htw⟩:=ht
   injection htv with e1 e2 e3
   subst e1;subst e3
   have hA:=(b6.fresh W (.bool l) (.slice ap ps.length cp) (.slice at_ t.length ct) (.slice ak ks.length ck)).alloc (Obj.cells #[.bool false, .slice none 0 0, .slice none 0 0, .slice none 0 0] 35)
   have hB:=m8 W (Obj.cells #[.bool l, .slice ap ps.length cp, .slice at_ t.length ct, .slice ak ks.length ck] 35) (.bool false) (.slice none 0 0) (.slice none 0 0) (.slice none 0 0)
   have hb0:Below W.heap.size W ((W.alloc (Obj.cells #[.bool l, .slice ap ps.length cp, .slice at_ t.length ct, .slice ak ks.length ck] 35)).alloc (Obj.cells #[.bool false, .slice none 0 0, .slice none 0 0, .slice none 0 0] 35)):=((a7).alloc (a8) _).alloc (by simp) _
   have hs0:((W.alloc (Obj.cells #[.bool l, .slice ap ps.length cp, .slice at_ t.length ct, .slice ak ks.length ck] 35)).alloc (Obj.cells #[.bool false, .slice none 0 0, .slice none 0 0, .slice none 0 0] 35)).heap.size=W.heap.size+2:=by simp
   have HI:=a6 (fun(i:Nat) (h:i < ks.length) (v:Value) (W2:World) (q:bY W2 W2.heap.size ks[i] v)=>IH ks[i] v W2 (aJ (iK (List.getElem_mem h)) hwt) (aJ (iK (List.getElem_mem h)) hkw) q)
   have Hp:=a6 (hp.keep hb0 (a8));have Ht:=a6 (htr.keep hb0 (a8));have Hk:=a6 (hk.keep hb0 (a8));have Hkk:=a6 (dQ.keep hb0 (a8) _ _ hkk)
   have Htone:=a6 (show ∀u∈t.map (Value.int .i32),u.oneCell'=true by intro u hu;obtain⟨z, -,rfl⟩:=List.mem_map.1 hu;rfl);have Hkkone:=a6 hkk.one
   have HkkW:=a6 hkk
   have Htw:=a6 htw;have Hb0:=a6 hb0;have HA:=a6 hA;have HB:=a6 hB;have Hs0:=a6 hs0
   clear IH hm hbig hv hp htr hk hkk htw hb0 hA hB hwt hkw hs0
   go_enter Tryz.func61,Tryz.ntmps61
   go_upto_region 1 with fail
   obtain⟨w0,hw0⟩:∃w0,w0=(W.alloc (Obj.cells #[.bool l, .slice ap ps.length cp, .slice at_ t.length ct, .slice ak ks.length ck] 35)).alloc (Obj.cells #[.bool false, .slice none 0 0, .slice none 0 0, .slice none 0 0] 35):=⟨_,rfl⟩
   rw [<- hw0]at Hp Ht Hk Hkk Hb0 HA HB Hs0⊢
   clear hw0
   obtain⟨x0,x1,x2,x3,⟨f0,f1,f2,f3⟩,hA4⟩:=HA.o.facts
   go_cut [] (fun wx=>∃pa pc ta tc ka kc,b6 wx W.heap.size (.bool l) (.slice pa ps.length pc) (.slice ta t.length tc) (.slice ka ks.length kc)/\b6 wx (W.heap.size+1) (.bool false) (.slice none 0 0) (.slice none 0 0) (.slice none 0 0)/\
    RowQ wx (fun b=>W.heap.size+2 <= b/\(Value.slice ka ks.length kc).ownBlock≠some b) 2 pa ps.length pc (bK ps)/\RowQ wx (fun b=>W.heap.size+2 <= b/\(Value.slice ka ks.length kc).ownBlock≠some b) 1 ta t.length tc (t.map (Value.int .i32))/\
    wx.ownsRow (W.heap.size+2) 35 4 (.slice ka ks.length kc) ks.length css/\Below W.heap.size W wx)
   case first=>
    go_region_law (first
     | (refine b9 rfl 113 _ _ rfl d_Z [Value.slice ap ps.length cp] ?_ _ (yY W.heap.size ps.length ap cp _ _ (Hp.o.keep ?_ (a8)) ?_ hpl) ?_
        . go_simp
        . exact(a7).drew
        . show W.heap.size <= w0.heap.size;rw [Hs0.o];omega
        rintro e w1 ⟨v1,rfl,hown,hbel⟩
        obtain⟨pa,pc,rfl, -⟩:=cK hown (m7 _)
        refine⟨_,rfl, ?_⟩
        have Hbel1:=a6 (((Below.refl w0.heap.size w0).drew).trans hbel);have Hown1:=a6 hown
        have hA1:=HA.o.keep (Hbel1.o.mono (by rw [Hs0.o];omega))
        obtain⟨y0,y1,y2,y3,⟨k0,k1,k2,k3⟩,hA5⟩:=hA1.facts
        clear hbel hown hA1)
     | (refine b9 rfl 114 _ _ rfl e_0 [Value.slice at_ t.length ct] ?_ _ (DQ W.heap.size t.length at_ ct _ _ (Ht.o.keep (Hbel1.o.mono ?_) (a8)) ?_ htl) ?_
        . go_simp
        . rw [Hs0.o];omega
        . have:=Hbel1.o.size;rw [Hs0.o]at this;omega
        rintro e w2 ⟨v2,rfl,hown,hbel⟩
        obtain⟨ta,tc,rfl, -⟩:=cK hown Htone.o
        refine⟨_,rfl, ?_⟩
        have Hbel2:=a6 (Hbel1.o.trans (hbel.mono Hbel1.o.size));have Hown2:=a6 hown;have Hbel12:=a6 hbel
        have hA1:=HA.o.keep (Hbel2.o.mono (by rw [Hs0.o];omega))
        obtain⟨z0,z1,z2,z3,⟨g0,g1,g2,g3⟩,hA6⟩:=hA1.facts
        clear hbel hown hA1)
     | (refine b9 rfl 115 _ _ rfl e_1 [Value.slice ak ks.length ck] ?_ _ (M0 W.heap.size ks.length ak ck _ _ (Hk.o.keep (Hbel2.o.mono ?_) (a8)) ?_ hkl) ?_
        . go_simp
        . rw [Hs0.o];omega
        . have:=Hbel2.o.size;rw [Hs0.o]at this;omega
        rintro e w3 ⟨v3,rfl,hown,hbel⟩
        obtain⟨ka,kc,rfl, -⟩:=cK hown Hkkone.o
        refine⟨_,rfl, ?_⟩
        have Hbel3:=a6 (Hbel2.o.trans (hbel.mono Hbel2.o.size));have Hown3:=a6 hown;have Hbel23:=a6 hbel
        have hA1:=HA.o.keep (Hbel3.o.mono (by rw [Hs0.o];omega))
        obtain⟨t0,t1,t2,t3,⟨r0,r1,r2,r3⟩,hA7⟩:=hA1.facts
        have HA3:=a6 hA1
        clear hbel hown hA1))
    all_goals
     go_wp2_with fail
     go_meet
     case rel=>
      have hM3:W.heap.size+2 <= w0.heap.size:=by rw [Hs0.o];omega
      have hrp:=KK (M:=W.heap.size+2) Hown1.o (m7 _) (Hbel12.o.trans (Hbel23.o.mono Hbel12.o.size)) Hown3.o Hbel12.o.size hM3
      have hrt:=KK (M:=W.heap.size+2) Hown2.o Htone.o Hbel23.o Hown3.o (a8) (aJ hM3 Hbel1.o.size)
      have hkM:W.heap.size+2 <= w2.heap.size:=aJ hM3 Hbel2.o.size
      have hn1:¬ (W.heap.size+2 <= W.heap.size/\(Value.slice ka ks.length kc).ownBlock≠some W.heap.size):=fun h=>by omega
      refine⟨pa,pc,ta,tc,ka,kc, ?_, ?_, ?_, ?_, ?_, ?_⟩
      . exact((HA3.o.s1 _).s2 _).s3 _
      . exact(((HB.o.keep (Hbel3.o.mono (by rw [Hs0.o];omega))).set (by omega)).set (by omega)).set (by omega)
      . exact aY (aY (aY hrp hn1) hn1) hn1
      . exact aY (aY (aY hrt hn1) hn1) hn1
      . exact lK (ownsRow_setCell_below (a:=⟨W.heap.size,3,none⟩) (ownsRow_setCell_below (a:=⟨W.heap.size,2,none⟩) (ownsRow_setCell_below (a:=⟨W.heap.size,1,none⟩) Hown3.o (show W.heap.size < w2.heap.size by omega) _) (show W.heap.size < w2.heap.size by omega) _) (show W.heap.size < w2.heap.size by omega) _) hkM
      . exact((((Hb0.o.trans (Hbel3.o.mono (by rw [Hs0.o];omega))).setCell (p:=⟨W.heap.size,1,none⟩) (a8) _).setCell (p:=⟨W.heap.size,2,none⟩) (a8) _).setCell (p:=⟨W.heap.size,3,none⟩) (a8) _)
   case rest=>
    obtain⟨pa,pc,ta,tc,ka,kc,hA,hB,hrp,hrt,hown,hbel⟩:=hcut
    obtain⟨y0,y1,y2,y3, -,hA5⟩:=hA.facts
    have Hi:=a6 (show _/\_/\_/\_/\_/\_ from⟨hA,hB,hrp,hrt,hown,hbel⟩)
    clear hA hB hrp hrt hown hbel x0 x1 x2 x3 f0 f1 f2 f3 hA4 HA HB Hp Ht Hk
    go_wp2_with fail
    clear y0 y1 y2 y3 hA5
    go_loopg [20] ks.length (fun g i wr=>∃ (j:Nat) (csN:List Value),i= .int .i64 j/\j+g=ks.length/\b6 wr W.heap.size (.bool l) (.slice pa ps.length pc) (.slice ta t.length tc) (.slice ka ks.length kc)/\b6 wr (W.heap.size+1) (.bool false) (.slice none 0 0) (.slice none 0 0) (.slice none 0 0)/\
     RowQ wr (fun b=>W.heap.size+2 <= b/\(Value.slice ka ks.length kc).ownBlock≠some b) 2 pa ps.length pc (bK ps)/\RowQ wr (fun b=>W.heap.size+2 <= b/\(Value.slice ka ks.length kc).ownBlock≠some b) 1 ta t.length tc (t.map (Value.int .i32))/\
     wr.ownsRow (W.heap.size+2) 35 4 (.slice ka ks.length kc) ks.length (csN ++ css.drop (j * 4))/\bX wr (fun b=>W.heap.size+2 <= b/\(Value.slice ka ks.length kc).ownBlock≠some b) (ks.take j) csN/\Below W.heap.size W wr)
    case atStart=>
     obtain⟨hA,hB,hrp,hrt,hown,hbel⟩:=Hi.o
     exact⟨0, [],rfl,by omega,hA,hB,hrp,hrt,by simpa using hown,by unfold bX;simp,hbel⟩
    case round=>
     obtain⟨j,csN,rfl,hg,hA,hB,hrp,hrt,hown,hkids,hbel⟩:=hrel
     obtain⟨y0,y1,y2,y3,⟨p0,p1,p2,p3⟩,hA5⟩:=hA.facts
     obtain⟨z0,z1,z2,z3,⟨q0,q1,q2,q3⟩,hB5⟩:=hB.facts
     have hcl:=bX.len' hkids
     have hclen:=Hkk.o.len
     have HA2:=a6 hA;have HB2:=a6 hB;have Hrp:=a6 hrp;have Hrt:=a6 hrt;have Hown:=a6 hown;have Hkids:=a6 hkids;have Hbel:=a6 hbel
     clear hA hB hrp hrt hkids
     by_cases hlt:j < ks.length
     . obtain ⟨c,hc,hall⟩:=HkkW.o.at_ j hlt
       have hc':=dJ.keep hbel (a8) _ _ hc
       obtain⟨l1,a1,n1,c1,a2,n2,c2,a3,n3,c3,rfl⟩:=hc'.form
       have hcj:csN.length=j * 4:=by rw [hcl,List.length_take,Nat.min_eq_left (by omega)]
       have hjl:j * 4+4 <= css.length:=by rw [hclen];omega
       obtain⟨g,rfl,hgM⟩:=A6 Hown.o (by
        intro e
        have:=congrArg List.length e
        simp only [List.length_append,List.length_drop,List.length_nil]at this
        omega)
       have hgl:g < wr.heap.size:=(Hown.o.lt g rfl).2
       have hat:∀i,i < 4 ->(csN ++ css.drop (j * 4))[j * 4+i]? = [Value.bool l1, .slice a1 n1 c1, .slice a2 n2 c2, .slice a3 n3 c3][i]? :=by
        intro i hi
        rw [List.getElem?_append_right (by omega),List.getElem?_drop,hcj,show j * 4+(j * 4+i - j * 4)=j * 4+i by omega]
        exact hall i hi
       have k0:=pV Hown.o _ _ (hat 0 (by omega))
       have k1:=pV Hown.o _ _ (hat 1 (by omega))
       have k2:=pV Hown.o _ _ (hat 2 (by omega))
       have k3:=pV Hown.o _ _ (hat 3 (by omega))
       have hdrop:∃x0 x1 x2 x3,css.drop (j * 4)=x0::x1::x2::x3::css.drop ((j+1) * 4):=by
        refine⟨css[j * 4],css[j * 4+1],css[j * 4+2],css[j * 4+3], ?_⟩
        rw [List.drop_eq_getElem_cons (by omega),List.drop_eq_getElem_cons (by omega),List.drop_eq_getElem_cons (by omega),List.drop_eq_getElem_cons (by omega)]
        rw [show (j+1) * 4=j * 4+1+1+1+1 by omega]
       have hlti:(j:Int) < ks.length:=by omega
       have HC:=a6 (fun(W':World) (hbw:Below wr.heap.size wr W')=>HI.o j hlt (.agg #[.bool l1, .slice a1 n1 c1, .slice a2 n2 c2, .slice a3 n3 c3]) W' ⟨_,rfl,dJ.keep (hbw.mono hbel.size) (aJ hbel.size hbw.size) _ _ hc'⟩)
       have Hdrop:=a6 hdrop;have Hcj:=a6 hcj
       have hW:=hbel.size
       have hgne:g≠W.heap.size:=by omega
       clear hc hc' hall hat hdrop hcj hown hbel Hi hcl hclen hjl
       simp only [Nat.add_zero]at k0
       go_wp2_with fail
       go_region_law (first
        | (refine b9 rfl 61 _ _ rfl IY [Value.agg #[.bool l1, .slice a1 n1 c1, .slice a2 n2 c2, .slice a3 n3 c3]] ?_ _ (HC.o _ ?_) ?_
           . go_simp
           . exact((a7).alloc (a8) _).drew
           rintro e w6 ⟨cs',rfl,hnode,hbel6⟩
           obtain⟨m1,b1,o1,d1,b2,o2,d2,b3,o3,d3,rfl⟩:=hnode.form
           refine⟨_,rfl, ?_⟩
           have Hb6:=a6 ((((Below.refl wr.heap.size wr).alloc (a8) (Obj.cells #[.bool l1, .slice a1 n1 c1, .slice a2 n2 c2, .slice a3 n3 c3] 35)).drew).trans (hbel6.mono (by show wr.heap.size <= (wr.alloc _).heap.size;simp)))
           have hA6:=HA2.o.keep (Hb6.o.mono (by omega))
           have hown6:=j4 Hown.o Hb6.o
           have r0:=hown6.frozenAt (j * 4);have r1:=hown6.frozenAt (j * 4+1);have r2:=hown6.frozenAt (j * 4+2);have r3:=hown6.frozenAt (j * 4+3)
           have hg6:=(hown6.lt g rfl).2
           have k0':=(Hb6.o.cell (p:=⟨g,j * 4,none⟩) hgl).trans k0;have k1':=(Hb6.o.cell (p:=⟨g,j * 4+1,none⟩) hgl).trans k1;have k2':=(Hb6.o.cell (p:=⟨g,j * 4+2,none⟩) hgl).trans k2;have k3':=(Hb6.o.cell (p:=⟨g,j * 4+3,none⟩) hgl).trans k3
           obtain⟨s0,s1,s2,s3, -,hA7⟩:=hA6.facts
           have HA6:=a6 hA6;have Hown6:=a6 hown6;have Hnode:=a6 hnode
           clear hA6 hown6 hnode hbel6))
       all_goals
        go_wp2_with fail
        go_roundg (gk - 1)
        case measure=>omega
        case rel=>
         have hz:(Value.slice (some ⟨g,0,none⟩) ks.length kc).ownBlock=some g:=by simp [Value.ownBlock]
         obtain⟨x0,x1,x2,x3,hdr⟩:=Hdrop.o
         have hs:=(((Hown6.o.stored (j * 4) (.bool m1)).1.stored (j * 4+1) (.slice b1 o1 d1)).1.stored (j * 4+2) (.slice b2 o2 d2)).1.stored (j * 4+3) (.slice b3 o3 d3) |>.1
         rw [b_U Hcj.o hdr]at hs
         have hng:¬ (W.heap.size+2 <= g/\(Value.slice (some ⟨g,0,none⟩) ks.length kc).ownBlock≠some g):=fun h=>h.2 hz
         have hk6:=bX.keep (w':=w6) (ok':=fun b=>W.heap.size+2 <= b/\(Value.slice (some ⟨g,0,none⟩) ks.length kc).ownBlock≠some b) Hb6.o.size (fun b _ hlt=>Hb6.o.block b hlt) (fun b hb _=>hb) _ _ Hkids.o
         have hrp6:=Hrp.o.keep (w':=w6) (ok':=fun b=>W.heap.size+2 <= b/\(Value.slice (some ⟨g,0,none⟩) ks.length kc).ownBlock≠some b) Hb6.o.size (fun b _ hlt=>Hb6.o.block b hlt) (fun b hb _=>hb)
         have hrt6:=Hrt.o.keep (w':=w6) (ok':=fun b=>W.heap.size+2 <= b/\(Value.slice (some ⟨g,0,none⟩) ks.length kc).ownBlock≠some b) Hb6.o.size (fun b _ hlt=>Hb6.o.block b hlt) (fun b hb _=>hb)
         have hB6:=HB2.o.keep (Hb6.o.mono (by omega))
         have hbl:∀b,(wr.alloc (Obj.cells #[.bool l1, .slice a1 n1 c1, .slice a2 n2 c2, .slice a3 n3 c3] 35)).heap.size <= b ->W.heap.size+2 <= b/\(Value.slice (some ⟨g,0,none⟩) ks.length kc).ownBlock≠some b:=by
          intro b hb
          have h1:wr.heap.size+1 <= b:=by simpa using hb
          refine⟨by omega, ?_⟩
          rw [hz]
          intro e
          injection e with e
          omega
         have hnq:=NodeQ.keep (w':=w6) (ok':=fun b=>W.heap.size+2 <= b/\(Value.slice (some ⟨g,0,none⟩) ks.length kc).ownBlock≠some b) (a8) (fun _ _ _=>rfl) (fun b hb _=>hbl b hb) _ _ Hnode.o
         have hkk:=vK (o:=j * 4+3) (u:= .slice b3 o3 d3) (vK (o:=j * 4+2) (u:= .slice b2 o2 d2) (vK (o:=j * 4+1) (u:= .slice b1 o1 d1) (vK (o:=j * 4) (u:= .bool m1) (hk6.append (bX.one hnq)) hng) hng) hng) hng
         rw [<- List.take_succ_eq_append_getElem hlt]at hkk
         refine⟨j+1,csN ++ [.bool m1, .slice b1 o1 d1, .slice b2 o2 d2, .slice b3 o3 d3],rfl,by omega, ?_, ?_, ?_, ?_,hs,hkk, ?_⟩
         . exact(((HA6.o.set hgne.symm).set hgne.symm).set hgne.symm).set hgne.symm
         . exact(((hB6.set (by omega)).set (by omega)).set (by omega)).set (by omega)
         . exact aY (aY (aY (aY hrp6 hng) hng) hng) hng
         . exact aY (aY (aY (aY hrt6 hng) hng) hng) hng
         . exact((((fV Hbel.o Hb6.o (a8)).setCell (p:=⟨g,j * 4,none⟩) (by show W.heap.size <= g;omega) _).setCell (p:=⟨g,j * 4+1,none⟩) (by show W.heap.size <= g;omega) _).setCell (p:=⟨g,j * 4+2,none⟩) (by show W.heap.size <= g;omega) _).setCell (p:=⟨g,j * 4+3,none⟩) (by show W.heap.size <= g;omega) _
     . have hnl:decide ((j:Int) < ks.length)=false:=by simp;omega
       clear hown hbel Hi
       go_wp2_with fail
       refine bodyPost_ret (v:= .agg #[.bool l, .slice pa ps.length pc, .slice ta t.length tc, .slice ka ks.length kc]) (by simp [results,Tryz.results61,go_sem,z0,z1,z2,z3]) rfl ?_
       have hj:j=ks.length:=by omega
       have hown2:=Hown.o
       have hkids2:=Hkids.o
       rw [hj,List.take_length]at hkids2
       rw [hj,List.drop_eq_nil_of_le (by omega),List.append_nil]at hown2
       have hn1:¬ (W.heap.size+2 <= W.heap.size+1/\(Value.slice ka ks.length kc).ownBlock≠some (W.heap.size+1)):=fun h=>by omega
       have hn2:¬ (W.heap.size+2 <= W.heap.size+1):=by omega
       obtain⟨ka',kc',hka,hrk⟩:=RowQ.of_own hown2 (bX.onec hkids2)
       injection hka with e1 e2 e3
       subst e1;subst e3
       have hrk2:RowQ wr (fun b=>W.heap.size+2 <= b) 4 ka ks.length kc csN:=hrk.keep (a8) (fun _ _ _=>rfl) (fun b hb _=>(hown2.lt b hb).1)
       refine⟨[.bool l, .slice pa ps.length pc, .slice ta t.length tc, .slice ka ks.length kc],rfl, ?_, ?_⟩
       . unfold NodeQ
         refine⟨pa,pc,ta,tc,ka,kc,csN,rfl, ?_, ?_,Htw.o, ?_, ?_⟩
         . exact(F4 Hrp.o hn1 _ _ _ _).keep (a8) (fun _ _ _=>rfl) (fun b hb _=>by omega)
         . exact(F4 Hrt.o hn1 _ _ _ _).keep (a8) (fun _ _ _=>rfl) (fun b hb _=>by omega)
         . exact(F4 hrk2 hn2 _ _ _ _).keep (a8) (fun _ _ _=>rfl) (fun b hb _=>by omega)
         . exact bX.keep (a8) (fun _ _ _=>rfl) (fun b hb _=>by omega) _ _ (h_Z hkids2 hn1 _ _ _ _)
       . with_reducible exact iQ Hbel.o (Nat.le_succ _) _ _ _ _
def aQ:aK ->List aK
 | .mk _ _ _ ks=>ks
def kK:aK ->List Int ->Option aK
 | n, []=>some n
 | n,i::p=>if 0 <= i then (match (aQ n)[i.toNat]? with | some k=>kK k p | none=>none) else none
def b_b (w:World) (B b off:Nat) (n:aK):Prop:= ∃l a1 n1 c1 a2 n2 c2 a3 n3 c3,dJ w B n [.bool l, .slice a1 n1 c1, .slice a2 n2 c2, .slice a3 n3 c3]/\w.cell? ⟨b,off,none⟩=some (.bool l)/\w.cell? ⟨b,off+1,none⟩=some (.slice a1 n1 c1)/\
 w.cell? ⟨b,off+2,none⟩=some (.slice a2 n2 c2)/\w.cell? ⟨b,off+3,none⟩=some (.slice a3 n3 c3)
def AtP (w:World) (B:Nat) (R:Option aK) (e:Ending) (w':World):Prop:=
 match R with
 | some m=>(∃b off,e= .returned (.tuple #[.pointer (some ⟨b,off,none⟩), .int .i64 0])/\b_b w B b off m)/\w=w'
 | none=>e= .returned (.tuple #[.pointer none, .int .i64 5])/\w=w'
theorem m_F (n:aK) (p:List Int) (a:Option Addr) (cap:Nat) (b off B:Nat) (w:World) (hn:b_b w B b off n) (hr:RowA w B 1 a p.length cap (p.map (Value.int .i64))):
 Calls Tryz.prog 60 #[.pointer (some ⟨b,off,none⟩), .slice a p.length cap] w (AtP w B (kK n p)):=by
 have hm:p.length <= 9223372036854775807:=by have h1:=hr.le;have h2:=hr.max;unfold maxLen at h2;omega
 obtain⟨R,hR⟩:∃R,R=kK n p:=⟨_,rfl⟩
 rw [<- hR]
 have HR:=a6 hR;have Hn:=a6 hn
 clear hR hn
 go_enter Tryz.func60,Tryz.ntmps60
 go_wp2_with fail
 go_loopg [0,10] p.length (fun g q i wr=>∃ (k b' off':Nat) (n':aK),q= .pointer (some ⟨b',off',none⟩)/\i= .int .i64 k/\k+g=p.length/\kK n' (p.drop k)=R/\b_b w B b' off' n'/\wr=w)
 case atStart=>exact⟨0,b,off,n,rfl,rfl,by omega,HR.o.symm,Hn.o,rfl⟩
 case round=>
  obtain⟨k,b',off',n',rfl,rfl,hg,hat,hn',rfl⟩:=hrel
  have Hat:=a6 hat;have Hn':=a6 hn'
  obtain⟨l,a1,n1,c1,a2,n2,c2,a3,n3,c3,hnc,x0,x1,x2,x3⟩:=hn'
  clear hat Hn HR
  by_cases hlt:k < p.length
  . have hd:p.drop k=p[k]::p.drop (k+1):=List.drop_eq_getElem_cons hlt
    have Hd:=a6 hd
    obtain⟨pb,po,rfl,hpb,hcell0⟩:=hr.int_at k hlt
    have hcell:=hcell0 k hlt
    rw [fJ hlt]at hcell
    clear hcell0
    generalize p[k]=i at hcell Hd
    have hlti:(k:Int) < p.length:=by omega
    clear hd
    obtain⟨l',ps',t',ks'⟩:=n'
    have hnc2:=hnc
    unfold dJ at hnc2
    obtain⟨ap,cp,at_,ct,ak,ck,css,hcs, -, -, -,hk,hkk⟩:=hnc2
    injection hcs with e0 e1;injection e1 with e1 e2;injection e2 with e2 e3;injection e3 with e3 e4
    injection e3 with f1 f2 f3
    subst f1;subst f2;subst f3
    clear e0 e1 e2 e4 hnc
    by_cases h0:0 <= i
    . obtain ⟨j,rfl⟩:∃j:Nat,i=j:=⟨i.toNat,by omega⟩
      by_cases hj:j < ks'.length
      . obtain ⟨kb,ko,l1,b1,o1,d1,b2,o2,d2,b3,o3,d3,rfl,hkb,hkn,g0,g1,g2,g3⟩:=hk.kid_at hkk j hj
        have Hat2:Hid (kK ks'[j] (p.drop (k+1))=R):=by
         show _=R
         rw [<- Hat.o,Hd.o]
         simp [kK,aQ,List.getElem?_eq_getElem hj]
        have Hkn:=a6 (show b_b wr B kb (ko+j * 4) ks'[j]from⟨l1,b1,o1,d1,b2,o2,d2,b3,o3,d3,hkn,g0,g1,g2,g3⟩)
        have hnl:decide ((j:Int) < 0)=false:=by simp
        have hji:(j:Int) < ks'.length:=by omega
        have hge:decide ((ks'.length:Int) <= j)=false:=by simp;omega
        clear hkn hk hkk Hat
        go_wp2_with fail
        go_roundg (gk - 1)
        case measure=>omega
        case rel=>exact⟨k+1,kb,ko+j * 4,ks'[j],rfl,rfl,by omega,Hat2.o,Hkn.o,rfl⟩
      . have HR2:Hid (R=none):=by
         show R=none
         rw [<- Hat.o,Hd.o]
         simp [kK,aQ,List.getElem?_eq_none (Nat.le_of_not_lt hj)]
        have hnl:decide ((j:Int) < 0)=false:=by simp
        have hge:decide ((ks'.length:Int) <= j)=true:=by simp;omega
        clear hk hkk Hat
        go_wp2_with fail
        go_ret2
        rw [HR2.o]
        exact⟨rfl,rfl⟩
    . have HR2:Hid (R=none):=by
       show R=none
       rw [<- Hat.o,Hd.o]
       simp only [kK]
       rw [if_neg h0]
      have hneg:i < 0:=by omega
      clear hk hkk Hat
      go_wp2_with fail
      go_ret2
      rw [HR2.o]
      exact⟨rfl,rfl⟩
  . have hnl:decide ((k:Int) < p.length)=false:=by simp;omega
    have HR2:Hid (R=some n'):=by
     show R=_
     rw [<- Hat.o,List.drop_eq_nil_of_le (by omega)]
     rfl
    clear hnc
    go_wp2_with fail
    go_ret2
    rw [HR2.o]
    exact⟨⟨b',off',rfl,Hn'.o⟩,rfl⟩
theorem uK:∀ (p:List Int) (n m:aK),kK n p=some m ->m.wt <= n.wt
 | [],n,m,h=>by unfold kK at h;injection h with h;subst h;exact a8
 | i ::p,n,m,h=>by
   unfold kK at h
   split at h
   . split at h
     . rename_i k hk
       have h1:=uK p k m h
       obtain⟨l,ps,t,ks⟩:=n
       have hm:k∈ks:=List.mem_of_getElem? hk
       have:=iK hm
       simp only [aK.wt]
       omega
     . cases h
   . cases h
def l_h (W:World) (R:Option aK) (e:Ending) (w':World):Prop:=
 match R with
 | some m=>∃cs,e= .returned (.tuple #[.agg cs.toArray, .int .i64 0])/\NodeQ w' (fun b=>W.heap.size <= b) m cs/\Below W.heap.size W w'
 | none=>e= .returned (.tuple #[.agg #[.bool false, .slice none 0 0, .slice none 0 0, .slice none 0 0], .int .i64 5])/\Below W.heap.size W w'
theorem e_L (n:aK) (p:List Int) (v:Value) (pa:Option Addr) (pc:Nat) (W:World) (hbig:n.wt <= 100000000) (hv:bY W W.heap.size n v) (hp:RowA W W.heap.size 1 pa p.length pc (p.map (Value.int .i64))):
 Calls Tryz.prog 13 #[v, .slice pa p.length pc] W (l_h W (kK n p)):=by
 have hwt:=uK p n
 obtain⟨csn,rfl,hc⟩:=hv
 obtain⟨l,a1,n1,c1,a2,n2,c2,a3,n3,c3,rfl⟩:=hc.form
 have hA:=(b6.fresh W (.bool l) (.slice a1 n1 c1) (.slice a2 n2 c2) (.slice a3 n3 c3)).alloc (Obj.cells #[.bool false, .slice none 0 0, .slice none 0 0, .slice none 0 0] 35)
 have hB:=m8 W (Obj.cells #[.bool l, .slice a1 n1 c1, .slice a2 n2 c2, .slice a3 n3 c3] 35) (.bool false) (.slice none 0 0) (.slice none 0 0) (.slice none 0 0)
 have hb0:Below W.heap.size W ((W.alloc (Obj.cells #[.bool l, .slice a1 n1 c1, .slice a2 n2 c2, .slice a3 n3 c3] 35)).alloc (Obj.cells #[.bool false, .slice none 0 0, .slice none 0 0, .slice none 0 0] 35)):=((a7).alloc (a8) _).alloc (by simp) _
 have hs0:((W.alloc (Obj.cells #[.bool l, .slice a1 n1 c1, .slice a2 n2 c2, .slice a3 n3 c3] 35)).alloc (Obj.cells #[.bool false, .slice none 0 0, .slice none 0 0, .slice none 0 0] 35)).heap.size=W.heap.size+2:=by simp
 obtain⟨y0,y1,y2,y3, -, -⟩:=hA.facts
 have HAt:=a6 (m_F n p pa pc W.heap.size 0 W.heap.size _ ⟨l,a1,n1,c1,a2,n2,c2,a3,n3,c3,dJ.keep hb0 (a8) _ _ hc,y0,y1,y2,y3⟩ (hp.keep hb0 (a8)))
 have Hb0:=a6 hb0;have HB:=a6 hB;have Hs0:=a6 hs0
 clear hc hA hB hb0 hs0 y0 y1 y2 y3 hp
 cases hat:kK n p with
 | none=>
   rw [hat]at HAt
   clear hat hwt
   go_enter Tryz.func13,Tryz.ntmps13
   go_wp2_with fail
   refine HAt.o.mono ?_
   rintro e w1 ⟨rfl,rfl⟩
   clear HAt
   go_wp2_with fail
   refine bodyPost_ret (v:= .tuple #[.agg #[.bool false, .slice none 0 0, .slice none 0 0, .slice none 0 0], .int .i64 5]) (by simp [results,Tryz.results13,go_sem]) rfl ?_
   exact⟨rfl,Hb0.o⟩
 | some m=>
   rw [hat]at HAt
   have hmw:=hwt m hat
   clear hat hwt
   go_enter Tryz.func13,Tryz.ntmps13
   obtain⟨w0,hw0⟩:∃w0,w0=(W.alloc (Obj.cells #[.bool l, .slice a1 n1 c1, .slice a2 n2 c2, .slice a3 n3 c3] 35)).alloc (Obj.cells #[.bool false, .slice none 0 0, .slice none 0 0, .slice none 0 0] 35):=⟨_,rfl⟩
   go_wp2_with fail
   rw [<- hw0]at HAt Hb0 HB Hs0⊢
   refine HAt.o.mono ?_
   rintro e w1 ⟨⟨b,off,rfl,l',b1,o1,d1,b2,o2,d2,b3,o3,d3,hmc,x0,x1,x2,x3⟩,rfl⟩
   have HC:=a6 (a_N m.wt m (.agg #[.bool l', .slice b1 o1 d1, .slice b2 o2 d2, .slice b3 o3 d3]) w0 (a8) (by omega) ⟨_,rfl,dJ.keep (a7) (by rw [Hs0.o];omega) _ _ hmc⟩)
   clear HAt hw0 hmc
   go_wp2_with fail
   refine HC.o.mono ?_
   rintro e w2 ⟨cs,rfl,hnode,hbel⟩
   obtain⟨m1,p1,q1,r1,p2,q2,r2,p3,q3,r3,rfl⟩:=hnode.form
   have hB2:=HB.o.keep (hbel.mono (by rw [Hs0.o];omega))
   obtain⟨z0,z1,z2,z3,⟨g0,g1,g2,g3⟩,hB5⟩:=hB2.facts
   have Hb2:=a6 (Hb0.o.trans (hbel.mono (by rw [Hs0.o];omega)))
   have Hnode:=a6 hnode
   clear HC hnode hbel x0 x1 x2 x3 hB2 HB
   go_wp2_with fail
   refine bodyPost_ret (v:= .tuple #[.agg #[.bool m1, .slice p1 q1 r1, .slice p2 q2 r2, .slice p3 q3 r3], .int .i64 0]) (by simp [results,Tryz.results13,go_sem,z0,z1,z2,z3]) rfl ?_
   have hne:¬ (w0.heap.size <= W.heap.size+1):=by rw [Hs0.o];omega
   refine⟨_,rfl, ?_, ?_⟩
   . have hq:=cQ (N:=W.heap.size+1) (o:=3) (u:= .slice p3 q3 r3) (cQ (N:=W.heap.size+1) (o:=2) (u:= .slice p2 q2 r2) (cQ (N:=W.heap.size+1) (o:=1) (u:= .slice p1 q1 r1) (cQ (N:=W.heap.size+1) (o:=0) (u:= .bool m1) Hnode.o hne) hne) hne) hne
     exact NodeQ.keep (a8) (fun _ _ _=>rfl) (fun b hb _=>by rw [Hs0.o]at hb;omega) _ _ hq
   . with_reducible exact iQ Hb2.o (Nat.le_succ _) _ _ _ _
end Go.Proofs.YtmadpclcmjahoaaGreatDoor
