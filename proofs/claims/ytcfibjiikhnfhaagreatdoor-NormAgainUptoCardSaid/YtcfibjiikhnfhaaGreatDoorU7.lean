/-
 xout:Nodes. Helper lemmas;no statement of the seat is proved here.
-/
import Derived.Test.YtcfibjiikhnfhaaGreatDoorU6
import Derived.Deep.DeepCutAuto
import Derived.Lib.SplitLaws
import Derived.Test.YtcfibjiikhnfhaaGreatDoorZhelf
namespace Go.Proofs.YtcfibjiikhnfhaaGreatDoor
open Go.RowKit
set_option maxHeartbeats 32000000
set_option maxRecDepth 100000
set_option linter.unusedVariables false
set_option linter.unusedSimpArgs false
theorem cellsU8:Tryz.prog.cellsOf 5=1:=by kernel_rfl
theorem row_bytes (L:Bytes):rowB L=Lib.byteCells L:=by simp[rowB,byI,Lib.byteCells]
theorem us_none (W:World) (q:Option Addr):(Builtin.unsafeString_ #[183,3] 9 #[.pointer q,.int .i64 0]).run Tryz.prog W= .ok (.string .empty) W:=Lib.run_unsafeString_none W _ _ _ q
theorem bstr_row (B b:Nat) (l:List UInt8) (w:World) (h:Lib.IsBuilder 133 5 B b (Lib.byteCells l) w) (h0:l≠ []):
  Calls Tryz.prog 70 #[.pointer (some ⟨b,0,none⟩)] w fun e w'=>e= .returned (.string ⟨l.toArray⟩)∧Below B w w':=by
 have mixed:Tryz.prog.follows Departure.mixedOrders=true:=by kernel_rfl
 obtain⟨p,hB,v,hbk,hown,hne⟩:∃p,Lib.BuilderAt 133 5 B b p (Lib.byteCells l) w:=by
  rcases h with h | h
  ·
   exact⟨_,h⟩
  ·
   exact⟨_,h⟩
 have hl0:l.length≠0:=by simpa using h0
 rw[Lib.byteCells_length]at hown
 obtain⟨g,cap,cur,rfl,hbg,hg,hnc,hcm,hcs,htake⟩:∃g cap cur,v= .slice (some ⟨g,0,none⟩) l.length cap∧B≤g∧w.heap[g]? =some (.cells cur 5 (0,0))∧l.length≤cap∧cap≤maxLen∧cur.size=cap*1∧cur.toList.take (l.length*1)=Lib.byteCells l:=by
  rcases hown.2 with⟨_,hz⟩ | ⟨g,cap,cur,hv,r⟩
  ·
   exact absurd hz hl0
  ·
   exact⟨g,cap,cur,hv,r⟩
 have c1:w.drew.cell? ⟨b,1,none⟩=some (.slice (some ⟨g,0,none⟩) l.length cap):=by
  have:w.drew.heap[b]? =some (.cells #[p,.slice (some ⟨g,0,none⟩) l.length cap] 133 (0,0)):=hbk
  rw[Lib.cell_of_heap this];rfl
 have hSD:(Builtin.unsafeSliceData_ #[43] 183 #[.slice (some ⟨g,0,none⟩) l.length cap]).run Tryz.prog w.drew= .ok (.pointer (some ⟨g,0,none⟩)) w.drew:=
  Lib.run_unsafeSliceData_row _ _ _ _ _ _ (by omega)
 have hUS:(Builtin.unsafeString_ #[183,3] 9 #[.pointer (some ⟨g,0,none⟩),.int .i64 l.length]).run Tryz.prog w.drew= .ok (.string ⟨l.toArray⟩) (w.drew.freeze ⟨g,0,none⟩ l.length):=by
  refine Lib.run_unsafeString_row w.drew 183 3 9 5 Tryz.underlying183 cellsU8 g cur.size (by have hg':w.drew.heap[g]? =some (.cells cur 5 (0,0)):=hg;simp[World.shape?,hg']) l h0 (by omega) (by unfold maxLen at hcm;omega) ?_
  intro j x hx
  have:=hown.cells (g:=g) rfl j (.int .u8 x.toNat) (by simp[Lib.byteCells,hx])
  exact this
 clear h
 go_enter Tryz.func70,Tryz.ntmps70
 go_wp2_with fail
 go_region_o
 all_goals (go_wp2_with fail;go_ret;exact⟨rfl,Lib.below_freeze (Below.drew (Below.refl B w)) (p:=⟨g,0,none⟩) hbg _⟩)
theorem bstr_nil (B b:Nat) (p:Value) (w:World) (hbk:w.heap[b]? =some (.cells #[p,.slice none 0 0] 133 (0,0))):
  Calls Tryz.prog 70 #[.pointer (some ⟨b,0,none⟩)] w fun e w'=>e= .returned (.string ⟨#[]⟩)∧Below B w w':=by
 have mixed:Tryz.prog.follows Departure.mixedOrders=true:=by kernel_rfl
 have hUS:=us_none
 have c1:w.drew.cell? ⟨b,1,none⟩=some (.slice none 0 0):=by
  have:w.drew.heap[b]? =some (.cells #[p,.slice none 0 0] 133 (0,0)):=hbk
  rw[Lib.cell_of_heap this];rfl
 have hSD:(Builtin.unsafeSliceData_ #[43] 183 #[.slice none 0 0]).run Tryz.prog w.drew= .ok (.pointer none) w.drew:=rfl
 go_enter Tryz.func70,Tryz.ntmps70
 go_wp2_with fail
 go_region_o
 all_goals (go_wp2_with fail;go_ret;exact⟨rfl,Below.drew (Below.refl B w)⟩)
theorem bstr_noroom (B b g:Nat) (p:Value) (cur:Array Value) (w:World) (hBw:B≤w.heap.size) (hbk:w.heap[b]? =some (.cells #[p,.slice (some ⟨g,0,none⟩) 0 0] 133 (0,0))) (hg:w.heap[g]? =some (.cells cur 5 (0,0))):
  Calls Tryz.prog 70 #[.pointer (some ⟨b,0,none⟩)] w fun e w'=>e= .returned (.string ⟨#[]⟩)∧Below B w w':=by
 have mixed:Tryz.prog.follows Departure.mixedOrders=true:=by kernel_rfl
 have hUS:=us_none
 have hlt:b< w.heap.size:=by
  rcases Nat.lt_or_ge b w.heap.size with h' | h'
  ·
   exact h'
  ·
   simp[Array.getElem?_eq_none h']at hbk
 have c1:w.drew.cell? ⟨b,1,none⟩=some (.slice (some ⟨g,0,none⟩) 0 0):=by
  have:w.drew.heap[b]? =some (.cells #[p,.slice (some ⟨g,0,none⟩) 0 0] 133 (0,0)):=hbk
  rw[Lib.cell_of_heap this];rfl
 have hSD:(Builtin.unsafeSliceData_ #[43] 183 #[.slice (some ⟨g,0,none⟩) 0 0]).run Tryz.prog w.drew= .ok (.pointer (some ⟨w.drew.heap.size,0,none⟩)) (w.drew.alloc (.view ⟨g,0,none⟩ 5)):=
  Lib.run_unsafeSliceData_zero w.drew _ _ 5 Tryz.underlying183 ⟨g,0,none⟩ 0 (5,cur.size) (by have hg':w.drew.heap[g]? =some (.cells cur 5 (0,0)):=hg;simp[World.shape?,hg'])
 have c2:(w.drew.alloc (.view ⟨g,0,none⟩ 5)).cell? ⟨b,1,none⟩=some (.slice (some ⟨g,0,none⟩) 0 0):=by
  have:(w.drew.alloc (.view ⟨g,0,none⟩ 5)).heap[b]? =_:=(Lib.alloc_old w.drew _ b hlt).trans hbk
  rw[Lib.cell_of_heap this];rfl
 have c3:(w.alloc (.view ⟨g,0,none⟩ 5)).drew.cell? ⟨b,1,none⟩=some (.slice (some ⟨g,0,none⟩) 0 0):=c2
 have c0:w.cell? ⟨b,1,none⟩=some (.slice (some ⟨g,0,none⟩) 0 0):=c1
 go_enter Tryz.func70,Tryz.ntmps70
 go_wp2_with fail
 go_region_o
 all_goals (go_wp2_with fail;go_ret;exact⟨rfl,(Below.drew (Below.refl B w)).alloc hBw _⟩)
theorem bstr_room (B b g cap:Nat) (p:Value) (w:World) (hc0:cap≠0) (hbk:w.heap[b]? =some (.cells #[p,.slice (some ⟨g,0,none⟩) 0 cap] 133 (0,0))):
  Calls Tryz.prog 70 #[.pointer (some ⟨b,0,none⟩)] w fun e w'=>e= .returned (.string ⟨#[]⟩)∧Below B w w':=by
 have mixed:Tryz.prog.follows Departure.mixedOrders=true:=by kernel_rfl
 have hUS:=us_none
 have c1:w.drew.cell? ⟨b,1,none⟩=some (.slice (some ⟨g,0,none⟩) 0 cap):=by
  have:w.drew.heap[b]? =some (.cells #[p,.slice (some ⟨g,0,none⟩) 0 cap] 133 (0,0)):=hbk
  rw[Lib.cell_of_heap this];rfl
 have hSD:(Builtin.unsafeSliceData_ #[43] 183 #[.slice (some ⟨g,0,none⟩) 0 cap]).run Tryz.prog w.drew= .ok (.pointer (some ⟨g,0,none⟩)) w.drew:=
  Lib.run_unsafeSliceData_row _ _ _ _ _ _ hc0
 clear hc0
 go_enter Tryz.func70,Tryz.ntmps70
 go_wp2_with fail
 go_region_o
 all_goals (go_wp2_with fail;go_ret;exact⟨rfl,Below.drew (Below.refl B w)⟩)
theorem bstr_any (w0 W:World) (L:Bytes) (h:PB w0 W L):
  Calls Tryz.prog 70 #[.pointer (some ⟨w0.heap.size,0,none⟩)] W fun e w'=>e= .returned (.string (bs L))∧Ext w0 w':=by
 have hb:=h.1
 rw[row_bytes]at hb
 have hX:=h.2
 have q:Calls Tryz.prog 70 #[.pointer (some ⟨w0.heap.size,0,none⟩)] W fun e w'=>e= .returned (.string ⟨L.toArray⟩)∧Below w0.heap.size W w':=by
  cases L with
  | cons x r=>exact bstr_row _ _ (x::r) W hb (by simp)
  | nil=>
   obtain⟨p,hB,v,hbk,hown,hne⟩:∃p,Lib.BuilderAt 133 5 w0.heap.size w0.heap.size p [] W:=by
    rcases hb with h | h
    ·
     exact⟨_,h⟩
    ·
     exact⟨_,h⟩
   rcases hown.2 with⟨rfl,_⟩ | ⟨g,cap,cur,rfl,hbg,hg,_,_,_,_⟩
   ·
    exact bstr_nil _ _ p W hbk
   ·
    by_cases hc0:cap=0
    ·
     subst hc0
     exact bstr_noroom _ _ g p cur W (Below.size hX) hbk hg
    ·
     exact bstr_room _ _ g cap p W hc0 hbk
 exact q.mono fun e w' ⟨h1,h2⟩=>⟨h1,Below.trans hX h2⟩
theorem nodesX_any (l:List Node) (p:Nat→Prop) (v:Value) (w:World) (hcnt:cntL l≤1048576) (hL:(txtL l).length≤140737488355328) (hv:Rep w p v (nodesD l)):
  Calls Tryz.prog 31 #[v] w fun e w'=>e= .returned (.string (bs (txtL l)))∧Ext w w':=by
 obtain⟨bk,ck,rfl,hk1,hk2⟩:=hv.count z_node (by omega)
 have hll:=cntL_len l
 have hlen:l.length≤1048576:=by omega
 obtain⟨w1,hw1⟩:∃W,w.alloc (.cells #[.pointer none,.slice none 0 0] 133)=W:=⟨_,rfl⟩
 have hP1:PB w w1 []:=by
  rw[←hw1]
  exact⟨Lib.fresh_isBuilder 133 5 w,(Ext.refl w).alloc _⟩
 have HW:=Lh hw1
 have HP1:=Lh hP1
 clear hw1 hP1 hll
 go_enter Tryz.func31,Tryz.ntmps31
 go_upto_region 2 with fail
 rw[HW.out]
 go_wp2_with fail
 go_loopw [5,10] (fun _ t wr=>∃i:Nat,t= .int .i64 i∧i≤l.length∧Hid (PB w wr (txtL (l.take i)))) (fun _ t _=>downV l.length t)
 case atStart=>exact⟨0,rfl,Nat.zero_le _,Lh (by rw[List.take_zero,txtL];exact HP1.out)⟩
 case round=>
  obtain⟨i,rfl,hi,HI⟩:=hrel
  have hi0:(0:Int)≤(i:Int):=by omega
  by_cases hlt:i< l.length
  ·
   have hlI:(i:Int)< (l.length:Int):=by omega
   obtain⟨gk,ok,za,zk,rfl,lgk,_,d0,d1,d2,d3,d4,hza,hzk⟩:=node_at hv i hlt
   have hX:=HI.out.2
   have e0:=hX.keep lgk d0;have e1:=hX.keep lgk d1;have e2:=hX.keep lgk d2;have e3:=hX.keep lgk d3;have e4:=hX.keep lgk d4
   have hst:=txtL_step l i hlt
   have hle:=txtL_len l (i+1)
   have hkc:=kid_le l i hlt
   obtain⟨y,hy⟩:∃y,l[i]=y:=⟨_,rfl⟩
   rw[hy]at e0 e1 e2 hza hzk hst hkc
   obtain⟨zab,zac,rfl,_,_⟩:=hza.count z_attr (by omega)
   obtain⟨zkb,zkc,rfl,_,_⟩:=hzk.count z_node (by omega)
   obtain⟨w5,hw5⟩:∃W,wr.alloc (.cells #[.int .i64 y.kind,.string (bs y.name),.string (bs y.text),.slice zab y.attrs.length zac,.slice zkb y.kids.length zkc] 26)=W:=⟨_,rfl⟩
   obtain⟨g5,hg5⟩:∃g,wr.heap.size=g:=⟨_,rfl⟩
   have hE5:Ext wr w5:=by rw[←hw5];exact(Ext.refl wr).alloc _
   have hb5:B5 w5 g5 y (.slice zab y.attrs.length zac) (.slice zkb y.kids.length zkc):=by rw[←hw5,←hg5];exact b5_box wr y _ _
   have n0:=hb5.c0;have n1:=hb5.c1;have n2:=hb5.c2;have n3:=hb5.c3;have n4:=hb5.c4
   have HW5:=Lh (And.intro hw5 hg5)
   rw[hst,List.length_append]at hle
   have HPb:=node_any (nsz y) y w w5 (txtL (l.take i)) p _ _ (Nat.le_refl _) (by omega) (HI.out.ext hE5) hza hzk (by omega)
   rw[←hst]at HPb
   have HPc:=Lh HPb
   clear HPb hy hw5 hg5 hE5 hb5 hst hle hkc hza hzk d0 d1 d2 d3 d4 hX
   go_upto_region 5 with fail
   rw[HW5.out.1,HW5.out.2]
   clear e0 e1 e2 e3 e4
   go_wp2_with fail
   refine HPc.out.mono ?_
   rintro e w6 ⟨⟨u6,rfl⟩,hP6,hK6⟩
   have HN6:=Lh hP6
   clear HPc hP6 hK6 HI
   go_wp2_with fail
   go_roundw
   case rel=>exact⟨i+1,by go_num,by omega,HN6⟩
   case measure=>simp only[downV];omega
  ·
   have hlI:¬(i:Int)< (l.length:Int):=by omega
   have hS:=HI.out
   rw[List.take_of_length_le (by omega)]at hS
   obtain⟨R,hR⟩:∃R,bs (txtL l)=R:=⟨_,rfl⟩
   have HPb:=bstr_any w wr (txtL l) hS
   rw[hR]at HPb
   have HPc:=Lh HPb
   have HR:=Lh hR
   clear HPb hS HI hR
   go_wp2_with fail
   refine HPc.out.mono ?_
   rintro e w6 ⟨rfl,hX6⟩
   go_wp2_with fail
   go_ret
   exact⟨by rw[HR.out];rfl,hX6⟩
def hdS (p:Bytes):List Bytes→List Bytes
 | []=> [p]
 | h::t=>(p++h)::t
theorem hdS_hdS (p q:Bytes) (l:List Bytes):hdS p (hdS q l)=hdS (p++q) l:=by
 cases l with
 | nil=>rfl
 | cons h t=>simp[hdS]
theorem splitS_hd (c:UInt8):∀(s cur:Bytes),splitS c cur s=hdS cur (splitS c [] s)
 | [],cur=>by simp[splitS,hdS]
 | b::r,cur=>by
  unfold splitS
  split
  ·
   simp[hdS]
  ·
   rw[splitS_hd c r (cur++ [b]),splitS_hd c r ([]++ [b]),hdS_hdS];rfl
theorem splitK_hd (c b:UInt8) (h:b≠c) (r:Bytes) (k:Nat):Lib.splitK [c] 0 k (b::r)=hdS [b] (Lib.splitK [c] 0 k r):=by
 have hi:Lib.index (b::r) [c]=if Lib.index r [c]== -1 then -1 else Lib.index r [c]+1:=by
  rw[Lib.index]
  have:([c]:List UInt8).isPrefixOf (b::r)=false:=by simp[List.isPrefixOf,Ne.symm h]
  rw[this];rfl
 cases k with
 | zero=>rfl
 | succ k=>
  unfold Lib.splitK
  rw[hi]
  by_cases hm:Lib.index r [c]= -1
  ·
   simp[hm,hdS]
  ·
   have h0:=Lib.index_ge r [c]
   obtain⟨i,hi2⟩:∃i:Nat,Lib.index r [c]=i:=⟨(Lib.index r [c]).toNat,by omega⟩
   have e1:(Lib.index r [c]== -1)=false:=by rw[beq_eq_false_iff_ne];exact hm
   have e2:((i:Int)+1== -1)=false:=by rw[beq_eq_false_iff_ne];omega
   rw[hi2]at e1⊢
   rw[e1]
   simp only[Bool.false_eq_true,if_false,e2]
   rw[show((i:Int)+1).toNat=i+1 by omega,show((i:Int)).toNat=i by omega]
   simp[hdS,List.take_succ_cons,show i+1+1=(i+1)+1 from rfl]
theorem split_S (c:UInt8):∀s:Bytes,Lib.split s [c]=splitS c [] s
 | []=>by
  unfold Lib.split
  have:Lib.count [] [c]=0:=by rw[Lib.count_one];rfl
  rw[this];rfl
 | b::r=>by
  have ih:=split_S c r
  by_cases h:b=c
  ·
   subst h
   unfold Lib.split at ih⊢
   rw[Lib.count_cons_eq,Nat.add_comm]
   unfold Lib.splitK
   have hi:Lib.index (b::r) [b]=0:=by rw[Lib.index];simp[List.isPrefixOf]
   rw[hi]
   simp only[splitS,if_pos]
   rw[←ih];rfl
  ·
   unfold Lib.split at ih⊢
   rw[Lib.count_cons_ne _ _ _ h,splitK_hd c b h,ih]
   conv=>rhs;unfold splitS
   rw[if_neg h,splitS_hd c r ([]++ [b])];rfl
theorem splitB_S (c:UInt8) (s:Bytes):Lib.splitB (bs [c]) 0 (Lib.countB (bs s) (bs [c])) (bs s)=(splitS c [] s).map bs:=by
 have h:=Lib.splitB_data (bs [c]) 0 (Lib.countB (bs s) (bs [c])) (bs s)
 have e:Lib.splitK (bs [c]).data.toList 0 (Lib.countB (bs s) (bs [c])) (bs s).data.toList=splitS c [] s:=split_S c s
 rw[e]at h
 have q:∀(l:List ByteArray) (m:List Bytes),l.map (·.data.toList)=m→l=m.map bs:=by
  intro l
  induction l with
  | nil=>intro m hm;cases m with | nil=>rfl | cons=>simp at hm
  | cons a r ih=>intro m hm;cases m with
   | nil=>simp at hm
   | cons x y=>
    simp only[List.map_cons,List.cons.injEq]at hm
    rw[List.map_cons,←ih y hm.2,←hm.1];rfl
 exact q _ _ h
theorem splitS_cnt (c:UInt8) (s:Bytes):(splitS c [] s).length=Lib.countB (bs s) (bs [c])+1:=by
 have h:=Lib.splitB_all (bs [c]) (by rw[bs_size];simp) 0 (Lib.countB (bs s) (bs [c])) (bs s) rfl
 rw[splitB_S,List.length_map]at h;exact h
def MaxV (w:World):Prop:=∃m,w.cell? ⟨3,0,none⟩=some (.int .i64 m)
theorem MaxV.ext {w w':World} (h:MaxV w) (hE:Ext w w'):MaxV w':=by
 obtain⟨m,hm⟩:=h
 exact⟨m,hE.keep (World.block_lt_of_cell? w _ hm) hm⟩
theorem splitS_mem (c:UInt8):∀(s cur x:Bytes),x∈splitS c cur s→x.length≤cur.length+s.length
 | [],cur,x,h=>by simp[splitS]at h;rw[h];simp
 | b::r,cur,x,h=>by
  unfold splitS at h
  split at h
  ·
   rcases List.mem_cons.1 h with rfl | h
   ·
    simp
   ·
    have:=splitS_mem c r [] x h;simp at this;rw[List.length_cons];omega
  ·
   have:=splitS_mem c r _ x h;rw[List.length_append]at this;simp at this;rw[List.length_cons];omega
theorem splitS_lenle (c:UInt8):∀(s cur:Bytes),(splitS c cur s).length≤s.length+1
 | [],cur=>by simp[splitS]
 | b::r,cur=>by
  unfold splitS
  split
  ·
   have:=splitS_lenle c r [];rw[List.length_cons,List.length_cons];omega
  ·
   have:=splitS_lenle c r (cur++ [b]);rw[List.length_cons];omega
theorem rep_new_strs (l:List Bytes) (w:World) (p:Nat→Prop) (hp:p w.heap.size) (hb:∀x∈l,x.length≤9223372036854775807) (hl:l.length≤9223372036854775807):
  Rep (w.alloc (.cells ((l.map bs).map Value.string).toArray 9)) p (.slice (some ⟨w.heap.size,0,none⟩) l.length l.length) (strsD l):=by
 have hfl:l.flatMap (fun x=> [strD x])=l.map strD:=by induction l with
  | nil=>rfl
  | cons a r ih=>rw[List.flatMap_cons,ih (fun x hx=>hb x (List.mem_cons_of_mem _ hx)) (by rw[List.length_cons]at hl;omega)];rfl
 unfold strsD
 rw[hfl]
 refine .row w.heap.size 0 l.length l.length 1 ((l.map bs).map Value.string) (l.map strD) (fun _=>hp) (by simp) (by simp) (Nat.le_refl _) hl (fun k u hk=> ?_) (fun k u e hk he=> ?_)
 ·
  have:=blk_cells (w:=w.alloc (.cells ((l.map bs).map Value.string).toArray 9)) (g:=w.heap.size) (xs:=(l.map bs).map Value.string) (e:=9) Array.getElem?_push_size k hk
  rw[Nat.zero_add];exact this
 ·
  rw[List.getElem?_map]at he
  rw[List.map_map,List.getElem?_map]at hk
  cases hx:l[k]? with
  | none=>rw[hx]at hk;cases hk
  | some x=>
   rw[hx]at hk he
   cases hk;cases he
   exact Rep.string _ _ _ (by rw[bs_size];exact hb x (List.mem_of_getElem? hx))
theorem splitX_any (s:Bytes) (w:World) (hs:s.length≤1048576) (hm:MaxV w):
  Calls Tryz.prog 113 #[.string (bs s),.string (bs [47])] w fun e w'=>Ret (fun b=>w.heap.size≤b) (strsD (splitS 47 [] s)) e w'∧Ext w w':=by
 obtain⟨m,hm⟩:=hm
 have h:=Any.strings_Split {Tryz.laysM146 with} infoStr (bs s) (bs [47]) m w (by rw[bs_size];omega) hm (by rw[bs_size];simp)
 rw[splitB_S]at h
 have hc:=splitS_cnt 47 s
 rw[←hc]at h
 refine h.mono fun e w' ⟨he,hw⟩=> ?_
 subst hw
 refine⟨⟨_,he,?_⟩,(Ext.refl w).alloc _⟩
 exact rep_new_strs _ w _ (Nat.le_refl _) (fun x hx=>by have:=splitS_mem 47 s [] x hx;simp at this;omega) (by have:=splitS_lenle 47 s [];omega)
def Mid (lo:Nat) (a w:World):Prop:=a.heap.size≤w.heap.size∧∀b,lo≤b→b< a.heap.size→w.heap[b]? =a.heap[b]?
theorem Mid.ext {lo:Nat} {a w w':World} (h:Mid lo a w) (hB:Ext w w'):Mid lo a w':=⟨Nat.le_trans h.1 hB.size,fun b h1 h2=>(Below.block hB b (Nat.lt_of_lt_of_le h2 h.1)).trans (h.2 b h1 h2)⟩
theorem Mid.set {lo:Nat} {a w:World} (h:Mid lo a w) {p:Addr} (hp:p.block< lo) (u:Value):Mid lo a (w.setCell p u):=⟨by simpa using h.1,fun b h1 h2=>by rw[Below.heap_setCell _ _ _ _ (by omega)];exact h.2 b h1 h2⟩
theorem Mid.st5 {lo:Nat} {a w:World} (h:Mid lo a w) {b:Nat} (hb:b< lo) (n:Node) (xa xk:Value):Mid lo a (st5 w b n xa xk):=((((h.set (p:=⟨b,0,none⟩) hb _).set (p:=⟨b,1,none⟩) hb _).set (p:=⟨b,2,none⟩) hb _).set (p:=⟨b,3,none⟩) hb _).set (p:=⟨b,4,none⟩) hb _
theorem Rep.mid {lo:Nat} {a w:World} {v:Value} {d:DV} (h:Rep a (fun b=>lo≤b) v d) (hm:Mid lo a w):Rep w (fun b=>lo≤b) v d:=h.kept fun b hb hlt=>hm.2 b hb hlt
theorem cutAt_any (c:Bytes) (w:World):Calls Tryz.prog 215 #[.string (bs c),.string (bs [64])] w fun e w'=>e= .returned (.tuple #[.string (bs (if c.getD 0 0=64 then c.drop 1 else c)),.bool (decide (c.getD 0 0=64))])∧w'=w:=by
 have h:=Tryz.strings_CutPrefix (bs c) (bs [64]) w
 have e:Lib.hasPrefix (bs c).data.toList (bs [64]).data.toList=decide (c.getD 0 0=64):=by
  show([64]:List UInt8).isPrefixOf c=_
  cases c with
  | nil=>rfl
  | cons a r=>
   show((64:UInt8)==a && true)=decide (a=64)
   by_cases ha:a=64
   ·
    subst ha;rfl
   ·
    rw[decide_eq_false ha,Bool.and_true,beq_eq_false_iff_ne];exact fun e=>ha e.symm
 have e2:Lib.trimPrefix (bs c).data.toList (bs [64]).data.toList=if c.getD 0 0=64 then c.drop 1 else c:=by
  unfold Lib.trimPrefix
  rw[e]
  by_cases h:c.getD 0 0=64
  ·
   rw[decide_eq_true h,if_pos rfl,if_pos h];rfl
  ·
   rw[decide_eq_false h,if_neg h];rfl
 rw[e,e2]at h
 exact h
theorem attrT_len (a:Attr):(attrT a).length≤6*(1+a.n.length+a.v.length):=by
 have:=escS_len true a.v
 unfold attrT;simp;omega
theorem attrsT_len:∀l:List Attr,(l.flatMap attrT).length≤6*cntA l
 | []=>by simp
 | a::r=>by
  have h1:=attrT_len a
  have h2:=attrsT_len r
  rw[List.flatMap_cons,List.length_append,cntA];omega
mutual
theorem txtN_le:∀n:Node,(txtN n).length≤12*cntN n
 | .mk k n t la ks=>by
  have h1:=escS_len false t
  have h2:=attrsT_len la
  have h3:=txtL_le ks
  rw[txtN,cntN]
  repeat' split
  all_goals ((try simp only[List.length_append,List.length_cons,List.length_nil]);omega)
theorem txtL_le:∀l:List Node,(txtL l).length≤12*cntL l
 | []=>by simp[txtL,cntL]
 | n::r=>by
  have h1:=txtN_le n
  have h2:=txtL_le r
  rw[txtL,cntL,List.length_append];omega
end
theorem nodesY_any (ks:List Node) (p:Nat→Prop) (v:Value) (w:World) (hcnt:cntL ks≤1048576) (hv:Rep w p v (nodesD ks)):
  Calls Tryz.prog 31 #[v] w fun e w'=>e= .returned (.string (bs (txtL ks)))∧Ext w w':=
 nodesX_any ks p v w hcnt (by have:=txtL_le ks;omega) hv
theorem value_any (a:Node) (path:Bytes) (p:Nat→Prop) (va vk:Value) (w:World) (hcnt:cntN a≤1048576) (hpl:path.length≤1048576) (hmx:MaxV w)
  (hva:Rep w p va (attrsD a.attrs)) (hvk:Rep w p vk (nodesD a.kids)):
  Calls Tryz.prog 182 #[.agg #[.int .i64 a.kind,.string (bs a.name),.string (bs a.text),va,vk],.string (bs path)] w fun e w'=>e= .returned (OutV (valS a path))∧Ext w w':=by
 have hck:=cnt_kids a
 obtain⟨ba,ca,rfl,ha1,ha2⟩:=hva.count z_attr (by omega)
 obtain⟨bk,ck,rfl,hk1,hk2⟩:=hvk.count z_node (by omega)
 obtain⟨w1,hw1⟩:∃w1,(w.alloc (.cells #[.int .i64 a.kind,.string (bs a.name),.string (bs a.text),.slice ba a.attrs.length ca,.slice bk a.kids.length ck] 26))=w1:=⟨_,rfl⟩
 obtain⟨g2,hg2⟩:∃g,w.heap.size=g:=⟨_,rfl⟩
 have hE1:Ext w w1:=by rw[←hw1];exact(Ext.refl w).alloc _
 have hz1:g2< w1.heap.size:=by rw[←hw1,←hg2];simp
 have hbx:B5 w1 g2 a (.slice ba a.attrs.length ca) (.slice bk a.kids.length ck):=by rw[←hw1,←hg2];exact b5_box w a _ _
 have hge:w.heap.size≤g2:=by omega
 have HW:=Lh (And.intro hw1 hg2)
 have HBX:=Lh hbx
 have HZ:=Lh (And.intro hz1 hge)
 have HE1:=Lh hE1
 have c4:=hbx.c4
 clear hw1 hg2 hbx hz1 hge
 by_cases hp:path= [46]
 ·
  subst hp
  have HC:=Lh (nodesY_any a.kids p _ w1 (by omega) (hvk.ext hE1))
  have e:valS a [46]=some (txtL a.kids):=by unfold valS;rw[if_pos rfl]
  rw[e]
  obtain⟨T,hT⟩:∃T,txtL a.kids=T:=⟨_,rfl⟩
  rw[hT]at HC⊢
  have e1:(bs [46]).toList= [46]:=bs_toList _
  have e2:((bs [46]).toList==(⟨#[46]⟩:ByteArray).toList)=true:=by rw[show(⟨#[46]⟩:ByteArray)=bs [46] from rfl];exact beq_self_eq_true _
  clear hT e hva hvk hck hcnt hpl hE1
  go_enter Tryz.func182,Tryz.ntmps182
  go_upto_region 1 with fail
  rw[HW.out.1,HW.out.2]
  go_wp2_with fail
  refine HC.out.mono ?_
  rintro e w2 ⟨rfl,hB1⟩
  go_wp2_with fail
  go_ret2
  exact⟨rfl,HE1.out.trans hB1⟩
 ·
  have e:valS a path=walkV a (splitS 47 [] path):=by unfold valS;rw[if_neg hp]
  rw[e]
  have HSP:=Lh (splitX_any path w1 hpl (hmx.ext hE1))
  have hplen:(splitS 47 [] path).length≤1048577:=by have:=splitS_lenle 47 path [];omega
  obtain⟨cs,hcs⟩:∃cs,splitS 47 [] path=cs:=⟨_,rfl⟩
  rw[hcs]at HSP hplen⊢
  obtain⟨R,hR⟩:∃R,walkV a cs=R:=⟨_,rfl⟩
  rw[hR]
  have HR:=Lh hR
  have e2:((bs path).toList==(⟨#[46]⟩:ByteArray).toList)=false:=by
   rw[show(⟨#[46]⟩:ByteArray)=bs [46] from rfl,bs_toList,bs_toList,beq_eq_false_iff_ne];exact hp
  have e1:((bs path).toList== [46])=false:=by rw[bs_toList,beq_eq_false_iff_ne];exact hp
  clear hR hcs e hp hpl hck hE1
  go_enter Tryz.func182,Tryz.ntmps182
  go_upto_region 1 with fail
  rw[HW.out.1,HW.out.2]
  go_wp2_with fail
  refine HSP.out.mono ?_
  rintro e w2 ⟨⟨v6,rfl,hr6⟩,hB2⟩
  obtain⟨a6,c6,rfl,h61,h62⟩:=hr6.count z_str (by omega)
  have HB2:=Lh (HBX.out.ext hB2)
  have HE2:=Lh (HE1.out.trans hB2)
  clear hB2 HSP c4
  go_wp2_with fail
  go_loopw [7,8,9,10,11,20] (fun _ _ _ _ _ t wr=>∃(i:Nat) (m:Node) (xa xk:Value),t= .int .i64 i∧i≤cs.length∧Ext w wr∧Hid (B5 wr g2 m xa xk∧Rep w p xa (attrsD m.attrs)∧Rep w p xk (nodesD m.kids)∧cntN m≤1048576∧Mid w1.heap.size w2 wr∧walkV m (cs.drop i)=R)) (fun _ _ _ _ _ t _=>downV cs.length t)
  case atStart=>exact⟨0,a,_,_,rfl,Nat.zero_le _,HE2.out,Lh ⟨HB2.out,hva,hvk,hcnt,⟨Nat.le_refl _,fun _ _ _=>rfl⟩,HR.out⟩⟩
  case round=>
   clear HB2 hva hvk hcnt HR
   obtain⟨i,m,xa,xk,rfl,hi,hX,HH⟩:=hrel
   obtain⟨hb5,hxa,hxk,hcm,hmid,hw⟩:=HH.out
   clear HH
   obtain⟨xab,xac,rfl,_,_⟩:=hxa.count z_attr (by omega)
   obtain⟨xkb,xkc,rfl,_,_⟩:=hxk.count z_node (by omega)
   have c0:=hb5.c0;have c1:=hb5.c1;have c2:=hb5.c2;have c3:=hb5.c3;have c4:=hb5.c4
   have hi0:(0:Int)≤(i:Int):=by omega
   by_cases hlt:i< cs.length
   ·
    have hlI:(i:Int)< (cs.length:Int):=by omega
    obtain⟨g6,o6,rfl,lg6,_,hc6⟩:=str_at (hr6.mid hmid) i hlt
    have HS:Hid (walkV m (cs.drop i)=if cs[i].getD 0 0=64 then attrGet (cs[i].drop 1) m.attrs else if(manyK cs[i] m.kids 0 zeroN).1=1 then walkV (manyK cs[i] m.kids 0 zeroN).2 (cs.drop (i+1))else none):=Lh (by rw[drop_one cs i hlt,walkV])
    obtain⟨c,hc⟩:∃c,cs[i]=c:=⟨_,rfl⟩
    rw[hc]at hc6 HS
    have HCP:=Lh fun W=>cutAt_any c W
    have HX:=Lh hX
    have HB5:=Lh (And.intro hb5 (And.intro hmid hcm))
    clear hc hX hb5 hmid
    by_cases h64:c.getD 0 0=64
    ·
     have HA:Hid (attrGet (c.drop 1) m.attrs=R):=Lh (by rw[←hw,HS.out,if_pos h64])
     rw[if_pos h64,decide_eq_true h64]at HCP
     have HAT:=Lh (attribute_any m (c.drop 1) p _ _ wr hcm (hxa.ext HX.out) (hxk.ext HX.out))
     rw[HA.out]at HAT
     unfold OutV at HAT
     obtain⟨x,hx⟩:∃x,c.drop 1=x:=⟨_,rfl⟩
     rw[hx]at HCP HAT
     clear HA HS hw h64 hxa hxk hx hcm
     go_wp2_with fail
     refine(HCP.out _).mono ?_
     rintro e w3 ⟨rfl,rfl⟩
     go_wp2_with fail
     refine HAT.out.mono ?_
     rintro e w4 ⟨rfl,hB4⟩
     go_wp2_with fail
     go_ret2
     exact⟨rfl,HX.out.trans hB4⟩
    ·
     have HA:Hid ((if(manyK c m.kids 0 zeroN).1=1 then walkV (manyK c m.kids 0 zeroN).2 (cs.drop (i+1))else none)=R):=Lh (by rw[←hw,HS.out,if_neg h64])
     rw[if_neg h64,decide_eq_false h64]at HCP
     have hMC:=manyK_cnt c m.kids 0 zeroN 1048576 (by have:=cnt_kids m;omega) (by decide)
     have HON:=Lh (only_any m c p _ _ w wr HX.out hcm hxa hxk)
     obtain⟨M,hM⟩:∃M,manyK c m.kids 0 zeroN=M:=⟨_,rfl⟩
     rw[hM]at HA hMC HON
     have HMC:=Lh hMC
     clear HS hw h64 hM hcm hxa hxk hMC
     go_wp2_with fail
     refine(HCP.out _).mono ?_
     rintro e w3 ⟨rfl,rfl⟩
     go_wp2_with fail
     refine HON.out.mono ?_
     rintro e w4 ⟨⟨ya,yk,rfl,hya,hyk⟩,hB4⟩
     obtain⟨yab,yac,rfl,_,_⟩:=hya.count z_attr (by omega)
     obtain⟨ykb,ykc,rfl,_,_⟩:=hyk.count z_node (by omega)
     have hb4:=HB5.out.1.ext hB4
     obtain⟨w5,hw5⟩:∃W,w4.alloc (.cells #[.int .i64 M.2.kind,.string (bs M.2.name),.string (bs M.2.text),.slice yab M.2.attrs.length yac,.slice ykb M.2.kids.length ykc] 26)=W:=⟨_,rfl⟩
     obtain⟨g5,hg5⟩:∃g,w4.heap.size=g:=⟨_,rfl⟩
     have hE5:Ext w4 w5:=by rw[←hw5];exact(Ext.refl w4).alloc _
     have hn5:B5 w5 g5 M.2 (.slice yab M.2.attrs.length yac) (.slice ykb M.2.kids.length ykc):=by rw[←hw5,←hg5];exact b5_box w4 M.2 _ _
     have h25:=hb4.ext hE5
     have HF:=Lh (And.intro h25 (And.intro hya (And.intro hyk (And.intro (HB5.out.2.1.ext (hB4.trans hE5)) (HX.out.trans (hB4.trans hE5))))))
     have HW5:=Lh (And.intro hw5 hg5)
     clear hya hyk hw5 hg5 hE5 HON HCP hB4 c0 c1 c2 c3 c4 hb4
     go_upto_region 10 with fail
     rw[HW5.out.1,HW5.out.2]
     have n0:=hn5.c0;have n1:=hn5.c1;have n2:=hn5.c2;have n3:=hn5.c3;have n4:=hn5.c4
     have p0:=h25.c0;have p1:=h25.c1;have p2:=h25.c2;have p3:=h25.c3;have p4:=h25.c4
     have t0:=h25.f0;have t1:=h25.f1;have t2:=h25.f2;have t3:=h25.f3;have t4:=h25.f4
     clear hn5 h25
     by_cases hj1:M.1=1
     ·
      have hj1I:decide (M.1=1)=true:=decide_eq_true hj1
      have HN:Hid (walkV M.2 (cs.drop (i+1))=R):=Lh (by rw[←HA.out,if_pos hj1])
      clear HA hj1
      go_wp2_with fail
      go_roundw
      case rel=>exact⟨i+1,M.2,_,_,by go_num,by omega,HF.out.2.2.2.2.st5 HZ.out.2 M.2 _ _,Lh ⟨HF.out.1.put,HF.out.2.1,HF.out.2.2.1,HMC.out,HF.out.2.2.2.1.st5 HZ.out.1 M.2 _ _,HN.out⟩⟩
      case measure=>simp only[downV];omega
     ·
      have hj1I:decide (M.1=1)=false:=decide_eq_false hj1
      have HN:Hid (none=R):=Lh (by rw[←HA.out,if_neg hj1])
      clear HA hj1
      go_wp2_with fail
      go_ret2
      exact⟨by rw[←HN.out];rfl,HF.out.2.2.2.2⟩
   ·
    have hlI:¬(i:Int)< (cs.length:Int):=by omega
    have HN:Hid (some (txtL m.kids)=R):=Lh (by rw[←hw,List.drop_of_length_le (by omega),walkV])
    have HC:=Lh (nodesY_any m.kids p _ wr (by have:=cnt_kids m;omega) (hxk.ext hX))
    obtain⟨T,hT⟩:∃T,txtL m.kids=T:=⟨_,rfl⟩
    rw[hT]at HC HN
    have HX:=Lh hX
    clear hT hw hxa hxk hmid hb5 hX
    go_wp2_with fail
    refine HC.out.mono ?_
    rintro e w3 ⟨rfl,hB3⟩
    go_wp2_with fail
    go_ret2
    exact⟨by rw[←HN.out];rfl,HX.out.trans hB3⟩
theorem attrGet_len (x:Bytes):∀(l:List Attr) (v:Bytes),attrGet x l=some v→v.length≤cntA l
 | [],v,h=>by simp[attrGet]at h
 | a::r,v,h=>by
  unfold attrGet at h
  rw[cntA]
  split at h
  ·
   cases h;omega
  ·
   have:=attrGet_len x r v h;omega
theorem walkV_len:∀(cs:List Bytes) (n:Node) (v:Bytes),cntN n≤1048576→walkV n cs=some v→v.length≤12582912
 | [],n,v,hn,h=>by
  rw[walkV]at h;cases h
  have h1:=txtL_le n.kids
  have h2:=cnt_kids n
  omega
 | c::cs,n,v,hn,h=>by
  have h2:=cnt_kids n
  rw[walkV]at h
  split at h
  ·
   have:=attrGet_len _ _ _ h;omega
  ·
   split at h
   ·
    exact walkV_len cs _ v (manyK_cnt c n.kids 0 zeroN 1048576 (by omega) (by decide)) h
   ·
    cases h
theorem valS_len (n:Node) (k v:Bytes) (hn:cntN n≤1048576) (h:valS n k=some v):v.length≤12582912:=by
 unfold valS at h
 split at h
 ·
  cases h
  have h1:=txtL_le n.kids
  have h2:=cnt_kids n
  omega
 ·
  exact walkV_len _ n v hn h
theorem keyS_step (n:Node):∀(L:List Bytes) (k:Bytes) (r:List Bytes),(keyS n (k::r)).map (L++ ·)=match valS n k with | none=>none | some v=>(keyS n r).map ((L++ [v])++ ·):=fun L k r=>by
 rw[keyS]
 cases valS n k with
 | none=>rfl
 | some v=>cases keyS n r<;> simp
theorem fail_any (code at':Int) (hc:code≠0) (w:World):Calls Tryz.prog 19 #[.int .i64 code,.int .i64 at'] w fun e w'=>(∃v,e= .returned v∧ErrV w' w.heap.size code at' v)∧Ext w w':=by
 go_enter Tryz.func19,Tryz.ntmps19
 go_wp2_with fail
 refine(new_any code at' hc _).mono ?_
 rintro e w1 ⟨rfl,hw1⟩
 go_wp2_with fail
 refine(wrap_any _ _ _).mono ?_
 rintro e w2 ⟨rfl,hw2⟩
 go_wp2_with fail
 go_ret
 subst hw1
 subst hw2
 refine⟨⟨_,rfl,_,w.heap.size,rfl,by simp,by simp<;> omega,by simp[go_sem],?_,?_,by simp,Nat.le_refl _⟩,((Ext.refl w).alloc _).alloc _⟩
 ·
  exact((Ext.refl _).alloc _).keep (by simp) (by simp[go_sem])
 ·
  exact((Ext.refl _).alloc _).keep (by simp) (by simp[go_sem])
theorem one_new {w:World} {u:Value} {e:TypeId}:∀(j:Nat) (v:Value),[u][j]? =some v→(w.alloc (.cells #[u] e)).cell? ((⟨w.heap.size,0,none⟩:Addr).add j)=some v:=cell_one_new w u e
def KeyV (w:World) (r:(Int×Int) ⊕ List Bytes) (e:Ending) (w':World):Prop:=match r with
 | .inl c=>∃v,e= .returned (.tuple #[.slice none 0 0,v])∧ErrV w' w.heap.size c.1 c.2 v
 | .inr k=>∃v,e= .returned (.tuple #[v,.nilIface])∧Rep w' (fun b=>w.heap.size≤b) v (strsD k)
def keyP (l:List Rule) (path:List Bytes) (a:Node):(Int×Int) ⊕ List Bytes:=if findS path l 0< 0 then .inl (32,0)else match keyS a (ruleR path l).keys with
 | none=> .inl (22,0)
 | some k=> .inr k
theorem key_any (l:List Rule) (path:List Bytes) (a:Node) (p q s:Nat→Prop) (vl vp va vn:Value) (w:World) (hcnt:cntN a≤1048576) (hmx:MaxV w) (hb:∀r∈l,r.path.length≤16777216∧r.keys.length≤16777216)
  (hkl:(ruleR path l).keys.length≤1048576) (hok:∀k∈(ruleR path l).keys,k.length≤1048576)
  (hvl:Rep w q vl (rulesD l)) (hvp:Rep w s vp (strsD path)) (hva:Rep w p va (attrsD a.attrs)) (hvn:Rep w p vn (nodesD a.kids)):
  Calls Tryz.prog 133 #[vl,vp,.agg #[.int .i64 a.kind,.string (bs a.name),.string (bs a.text),va,vn]] w fun e w'=>KeyV w (keyP l path a) e w'∧Ext w w':=by
 obtain⟨la,lc,rfl,_,_⟩:=hvl.count z_rule (by omega)
 obtain⟨pa,pc,rfl,_,_⟩:=hvp.count z_str (by omega)
 obtain⟨ba,ca,rfl,_,_⟩:=hva.count z_attr (by omega)
 obtain⟨bn,cn,rfl,_,_⟩:=hvn.count z_node (by omega)
 obtain⟨i0,hi,hz0,hz1,hz2⟩:=info_parts infoStr
 obtain⟨w1,hw1⟩:∃W,w.alloc (.cells #[.int .i64 a.kind,.string (bs a.name),.string (bs a.text),.slice ba a.attrs.length ca,.slice bn a.kids.length cn] 26)=W:=⟨_,rfl⟩
 obtain⟨g5,hg5⟩:∃g,w.heap.size=g:=⟨_,rfl⟩
 have hE1:Ext w w1:=by rw[←hw1];exact(Ext.refl w).alloc _
 have hb1:B5 w1 g5 a (.slice ba a.attrs.length ca) (.slice bn a.kids.length cn):=by rw[←hw1,←hg5];exact b5_box w a _ _
 have HF:=Lh (findK_any q s l path _ _ w1 hb (hvl.ext hE1) (hvp.ext hE1))
 have HW:=Lh (And.intro hw1 hg5)
 have HE1:=Lh (And.intro hE1 hb1)
 obtain⟨R,hR⟩:∃R,keyP l path a=R:=⟨_,rfl⟩
 rw[hR]
 obtain⟨F,hF⟩:∃F,decide (0≤findS path l 0)=F:=⟨_,rfl⟩
 rw[hF]at HF
 obtain⟨rr,hrr⟩:∃r,ruleR path l=r:=⟨_,rfl⟩
 rw[hrr]at HF hkl hok
 have HR:Hid ((if F=false then .inl (32,0)else match keyS a rr.keys with | none=> .inl (22,0) | some k=> .inr k)=R):=Lh (by
  rw[←hR,←hF,←hrr];unfold keyP
  by_cases h:findS path l 0< 0
  ·
   rw[if_pos h,if_pos (by rw[decide_eq_false_iff_not];omega)]
  ·
   rw[if_neg h,if_neg (by rw[decide_eq_false_iff_not];omega)])
 have HOK:=Lh hok
 have HMX:=Lh hmx
 clear hR hF hrr hok hvl hvp hw1 hg5 hE1 hb1 hb hmx
 go_enter Tryz.func133,Tryz.ntmps133
 go_upto_region 1 with fail
 rw[HW.out.1,HW.out.2]
 go_wp2_with fail
 refine HF.out.mono ?_
 rintro e w2 ⟨⟨ua,uk,rfl,hua,huk⟩,hB2⟩
 obtain⟨ka,kc,rfl,hkc1,hkc2⟩:=huk.count z_str (by omega)
 obtain⟨pa2,pc2,rfl,_,_⟩:=hua.count z_str (by omega)
 obtain⟨w3,hw3⟩:∃W,w2.alloc (.cells #[.slice pa2 rr.path.length pc2,.slice ka rr.keys.length kc] 53)=W:=⟨_,rfl⟩
 obtain⟨g8,hg8⟩:∃g,w2.heap.size=g:=⟨_,rfl⟩
 have hE3:Ext w2 w3:=by rw[←hw3];exact(Ext.refl w2).alloc _
 have k1:w3.cell? ⟨g8,1,none⟩=some (.slice ka rr.keys.length kc):=by rw[←hw3,←hg8];simp[go_sem]
 have hEw:Ext w w3:=HE1.out.1.trans (hB2.trans hE3)
 have HEW:=Lh hEw
 have hb3:=HE1.out.2.ext (hB2.trans hE3)
 have HW3:=Lh (And.intro hw3 hg8)
 have hvk:=huk.ext hE3
 clear hw3 hg8 hE3 hua huk HF hB2
 go_upto_region 2 with fail
 rw[HW3.out.1,HW3.out.2]
 cases F with
 | false=>
  have HN:Hid (.inl (32,0)=R):=Lh HR.out
  have HFA:=Lh (fail_any 32 0 (by decide) w3)
  clear HR
  go_wp2_with fail
  refine HFA.out.mono ?_
  rintro e w4 ⟨⟨v,rfl,hv⟩,hB4⟩
  go_wp2_with fail
  go_ret2
  rw[←HN.out]
  obtain⟨b1,b2,f0,f1,f2,f3,f4,f5,f6,f7⟩:=hv
  have hs:=HEW.out.size
  exact⟨⟨_,rfl,b1,b2,f0,f1,f2,f3,f4,f5,by omega,by omega⟩,HEW.out.trans hB4⟩
 | true=>
  have HRK:Hid ((match(keyS a (rr.keys.drop 0)).map ([]++ ·)with | none=> .inl (22,0) | some k=> .inr k)=R):=Lh (by
   rw[←HR.out,List.drop_zero,if_neg (by decide)]
   cases keyS a rr.keys<;> rfl)
  have HB3:=Lh hb3
  clear HR hb3
  go_wp2_with fail
  go_loopw [10,12,13,14,27] (fun o _ _ _ t wr=>∃(i:Nat) (L:List Bytes) (dv:Value),t= .int .i64 i∧dv=o∧i≤rr.keys.length∧L.length≤i∧Own wr (fun _=>False) w3.heap.size 9 1 dv L.length (L.flatMap fun x=> [strD x])∧Ext w3 wr∧Hid ((match(keyS a (rr.keys.drop i)).map (L++ ·)with | none=> .inl (22,0) | some k=> .inr k)=R)) (fun _ _ _ _ t _=>downV rr.keys.length t)
  case atStart=>exact⟨0,[],_,rfl,rfl,Nat.zero_le _,Nat.le_refl _,Own.nil _ _ _ _ _,Ext.refl _,HRK⟩
  case round=>
   clear k1 HRK
   obtain⟨i,L,dv,rfl,rfl,hi2,hL,hown,hX,HI⟩:=hrel
   have hi0:(0:Int)≤(i:Int):=by omega
   have hb5:=HB3.out.ext hX
   have n0:=hb5.c0;have n1:=hb5.c1;have n2:=hb5.c2;have n3:=hb5.c3;have n4:=hb5.c4
   by_cases hlt:i< rr.keys.length
   ·
    have hlI:(i:Int)< (rr.keys.length:Int):=by omega
    obtain⟨g,o,rfl,lg,_,hc⟩:=str_at (hvk.ext hX) i hlt
    have hpo:=HOK.out _ (List.getElem_mem hlt)
    have HS:=keyS_step a L rr.keys[i] (rr.keys.drop (i+1))
    rw[←drop_one rr.keys i hlt]at HS
    have HII:=HI.out
    rw[HS]at HII
    obtain⟨k,hk⟩:∃k,rr.keys[i]=k:=⟨_,rfl⟩
    rw[hk]at hc hpo HII
    have HC:=Lh (value_any a k p _ _ wr hcnt hpo (HMX.out.ext (HEW.out.trans hX)) (hva.ext (HEW.out.trans hX)) (hvn.ext (HEW.out.trans hX)))
    have hvl:=valS_len a k
    obtain⟨r,hr⟩:∃r,valS a k=r:=⟨_,rfl⟩
    rw[hr]at HC HII hvl
    have HXX:=Lh (And.intro hX hown)
    clear hk hpo hr HS HI hX hown hb5
    cases r with
    | none=>
     have HN:Hid (.inl (22,0)=R):=Lh HII
     have HFA:=Lh fun W=>fail_any 22 0 (by decide) W
     unfold OutV at HC
     clear HII hvl
     go_wp2_with fail
     refine HC.out.mono ?_
     rintro e w4 ⟨rfl,hB4⟩
     clear HC
     go_wp2_with fail
     refine(HFA.out _).mono ?_
     rintro e w5 ⟨⟨v,rfl,hv⟩,hB5⟩
     go_wp2_with fail
     go_ret2
     rw[←HN.out]
     obtain⟨b1,b2,f0,f1,f2,f3,f4,f5,f6,f7⟩:=hv
     have hs:=(HEW.out.trans (HXX.out.1.trans hB4)).size
     exact⟨⟨_,rfl,b1,b2,f0,f1,f2,f3,f4,f5,by omega,by omega⟩,HEW.out.trans (HXX.out.1.trans (hB4.trans hB5))⟩
    | some v=>
     have HN:Hid ((match(keyS a (rr.keys.drop (i+1))).map ((L++ [v])++ ·)with | none=> .inl (22,0) | some k=> .inr k)=R):=Lh HII
     have hvb:v.length≤12582912:=hvl v hcnt rfl
     have HC2:Hid (Calls Tryz.prog 182 #[.agg #[.int .i64 a.kind,.string (bs a.name),.string (bs a.text),.slice ba a.attrs.length ca,.slice bn a.kids.length cn],.string (bs k)] wr fun e w'=>e= .returned (.tuple #[.string (bs v),.bool true])∧Ext wr w'):=Lh HC.out
     clear HII hvl HC
     go_wp2_with fail
     refine HC2.out.mono ?_
     rintro e w4 ⟨rfl,hB4⟩
     have hX1:=HXX.out.1.trans hB4
     have hown1:=Own.ext HXX.out.2 hB4
     have hsz1:=hX1.size
     obtain⟨us,hrow,hreps⟩:=hown1
     clear HC2 HXX hB4 n0 n1 n2 n3 n4
     go_wp2_with (at_builtin;refine wpList_append_own_at _ rfl (.tmp 40) (.tmp 42) _ rfl w3.heap.size 9 i0 (.string ⟨#[]⟩) 1 16 Tryz.underlying51 hi hz0 hz1 hz2 rfl (by decide) dv L.length us rfl (hrow.alloc _) ⟨w4.heap.size,0,none⟩ 1 1 [.string (bs v)] rfl rfl one_new (by intro u hu;simp at hu;rcases hu with rfl;rfl) (by unfold maxLen;omega) (by omega) (by simp;omega) ?_;intro v2 w5 hown2 hgrow2 _ hat2)
     have hX2:Ext w3 w5:=Below.grown (Ext.alloc (show Ext w3 w4 from hX1) (.cells #[.string (bs v)] 9)) hgrow2 (by simp;omega) fun k hk=>(hrow.lt k hk).1
     have hO2:Own w5 (fun _=>False) w3.heap.size 9 1 v2 (L++ [v]).length ((L++ [v]).flatMap fun x=> [strD x]):=by
      rw[List.length_append,List.flatMap_append]
      exact Own.push ((hreps.ext ((Ext.refl w4).alloc _)).ok fun b hb=>⟨hb.1,hb.2.1,by simp;omega⟩) (Reps.cons (Rep.string _ _ _ (by rw[bs_size];omega)) (Reps.nil _ _)) hown2 hgrow2 hat2
     clear hown2 hgrow2 hrow hreps hX1 hat2
     go_wp2_with fail
     go_roundw
     case rel=>exact⟨i+1,L++ [v],v2,by go_num,rfl,by omega,by rw[List.length_append];simp;omega,hO2,hX2,HN⟩
     case measure=>simp only[downV];omega
   ·
    have hlI:¬(i:Int)< (rr.keys.length:Int):=by omega
    have HN:Hid (.inr L=R):=Lh (by have:=HI.out;rw[List.drop_of_length_le (by omega),keyS]at this;rw[←this];simp)
    have HO:=Lh (And.intro hown hX)
    clear HI hown hX hb5
    go_wp2_with fail
    go_ret2
    rw[←HN.out]
    exact⟨⟨dv,rfl,HO.out.1.rep.ok (fun b hb=>by rcases hb with h | h;exact h.elim;have:=HEW.out.size;omega)⟩,HEW.out.trans HO.out.2⟩
structure FB (W:World) (g:Nat) (lv:Value) (n:Int):Prop where
 lt:g< W.heap.size
 c0:W.cell? ⟨g,0,none⟩=some lv
 c1:W.cell? ⟨g,1,none⟩=some (.int .i64 n)
 f1:W.frozen? ⟨g,1,none⟩=false
theorem FB.ext {W W':World} {g:Nat} {lv:Value} {n:Int} (h:FB W g lv n) (hE:Ext W W'):FB W' g lv n:=
 ⟨Nat.lt_of_lt_of_le h.lt hE.size,hE.keep h.lt h.c0,hE.keep h.lt h.c1,hE.free h.lt h.f1⟩
theorem FB.set {W:World} {g:Nat} {lv:Value} {n:Int} (h:FB W g lv n) (m:Int):FB (W.setCell ⟨g,1,none⟩ (.int .i64 m)) g lv m:=by
 have c0:=h.c0;have c1:=h.c1;have f1:=h.f1;have l:=h.lt
 exact⟨by simpa using l,by simp[go_sem,c0],by simp[go_sem,c1],by simp[go_sem,f1]⟩
theorem elemsL_app:∀a b:List Node,elemsL (a++b)=elemsL a+elemsL b
 | [],b=>by rw[elemsL];simp
 | n::r,b=>by rw[List.cons_append,elemsL,elemsL,elemsL_app r b];omega
theorem elemsL_step (l:List Node) (i:Nat) (h:i< l.length):elemsL (l.take (i+1))=elemsL (l.take i)+elemsN l[i]:=by
 rw[←List.take_append_getElem h,elemsL_app,elemsL,elemsL];omega
theorem elemsL_le (l:List Node) (i:Nat):elemsL (l.take i)≤elemsL l:=by
 conv=>rhs;rw[←List.take_append_drop i l]
 rw[elemsL_app];omega
theorem elemsN_1 (n:Node) (h:n.kind=1):elemsN n=1+elemsL n.kids:=by
 cases n with | mk k nm t la ks=>have hk:k=1:=h;subst hk;rw[elemsN,if_neg (by simp)];rfl
theorem elemsN_0 (n:Node) (h:n.kind≠1):elemsN n=0:=by
 cases n with | mk k nm t la ks=>have hk:k≠1:=h;rw[elemsN,if_pos hk]
theorem _root_.Go.Proofs.YY.Exc.trans' {g:Nat} {a b c:World} (h:Exc g a b) (k:Exc g b c):Exc g a c:=⟨Nat.le_trans h.1 k.1,fun x h1 h2=>(k.2 x h1 (Nat.lt_of_lt_of_le h2 h.1)).trans (h.2 x h1 h2),k.3.1.trans h.3.1,k.3.2.1.trans h.3.2.1,k.3.2.2.trans h.3.2.2⟩
def SkipP (N:Nat):Prop:=∀(ks:List Node) (W:World) (g:Nat) (lv:Value) (n:Int) (p:Nat→Prop) (v:Value),nszL ks< N→cntL ks≤1048576→0≤n→n+elemsL ks≤4194304→FB W g lv n→Rep W p v (nodesD ks)→(∀b,p b→b≠g)→
  Calls Tryz.prog 47 #[.pointer (some ⟨g,0,none⟩),v] W fun e w'=>e= .returned (.tuple #[])∧FB w' g lv (n+elemsL ks)∧Exc g W w'
theorem skip_step (N:Nat) (ih:SkipP N):SkipP (N+1):=by
 intro ks W g lv n p v hN hcnt hn0 hn1 hF hv hp
 obtain⟨bk,ck,rfl,_,_⟩:=hv.count z_node (by omega)
 have hll:=cntL_len ks
 have hlen:ks.length≤1048576:=by omega
 have HN:=Lh hN
 have HP:=Lh hp
 have HF:=Lh hF
 have HC:=Lh hcnt
 have HB:=Lh (And.intro hn0 hn1)
 clear hll hN hp hF hcnt hn0 hn1
 go_enter Tryz.func47,Tryz.ntmps47
 go_wp2_with fail
 go_loopw [5,8] (fun _ t wr=>∃i:Nat,t= .int .i64 i∧i≤ks.length∧Hid (FB wr g lv (n+elemsL (ks.take i))∧Exc g W wr)) (fun _ t _=>downV ks.length t)
 case atStart=>exact⟨0,rfl,Nat.zero_le _,Lh ⟨by rw[List.take_zero,elemsL];simpa using HF.out,Exc.refl _ _⟩⟩
 case round=>
  obtain⟨i,rfl,hi,HI⟩:=hrel
  have hi0:(0:Int)≤(i:Int):=by omega
  by_cases hlt:i< ks.length
  ·
   have hlI:(i:Int)< (ks.length:Int):=by omega
   obtain⟨gk,ok,za,zk,rfl,lgk,_,e0,e1,e2,e3,e4,hza,hzk⟩:=node_at (hv.exc HP.out HI.out.2) i hlt
   have hst:=elemsL_step ks i hlt
   have hle:=elemsL_le ks (i+1)
   have hnz:=nszL_get ks i hlt
   have hkc:=kid_le ks i hlt
   obtain⟨y,hy⟩:∃y,ks[i]=y:=⟨_,rfl⟩
   rw[hy]at e0 e1 e2 hza hzk hst hnz hkc
   obtain⟨zab,zac,rfl,_,_⟩:=hza.count z_attr (by omega)
   obtain⟨zkb,zkc,rfl,_,_⟩:=hzk.count z_node (by omega)
   obtain⟨w5,hw5⟩:∃W,wr.alloc (.cells #[.int .i64 y.kind,.string (bs y.name),.string (bs y.text),.slice zab y.attrs.length zac,.slice zkb y.kids.length zkc] 26)=W:=⟨_,rfl⟩
   obtain⟨g5,hg5⟩:∃g,wr.heap.size=g:=⟨_,rfl⟩
   have hE5:Ext wr w5:=by rw[←hw5];exact(Ext.refl wr).alloc _
   have hb5:B5 w5 g5 y (.slice zab y.attrs.length zac) (.slice zkb y.kids.length zkc):=by rw[←hw5,←hg5];exact b5_box wr y _ _
   have hF5:=HI.out.1.ext hE5
   obtain⟨M,hM⟩:∃M,n+(elemsL (ks.take i):Int)=M:=⟨_,rfl⟩
   rw[hM]at hF5
   have hb:=HB.out
   have hM0:0≤M∧M≤4194304∧M+elemsN y≤4194304:=by omega
   have hnx:n+(elemsL (ks.take (i+1)):Int)=M+elemsN y:=by omega
   have hM1:0≤M:=hM0.1
   have hM2:M≤4194304:=hM0.2.1
   have hne:¬g5=g:=by have:=HI.out.1.lt;omega
   have hne2:¬g=g5:=fun e=>hne e.symm
   have HX5:=Lh (And.intro (HI.out.2.ext hE5) (And.intro hF5 (And.intro hnx (And.intro hM0.2.2 (hzk.ext hE5)))))
   have HW5:=Lh (And.intro hw5 hg5)
   have n0:=hb5.c0;have n4:=hb5.c4
   have f1:=hF5.c1;have f2:=hF5.f1
   have hnk:=nsz_kids y
   have hcy:=cnt_kids y
   have HK:=Lh (show nszL y.kids< N∧cntL y.kids≤1048576 by have:=HN.out;have:=HC.out;omega)
   clear hy hw5 hg5 hE5 hb5 hst hle hnz hkc hza hzk hM hb hM0 hnx hnk hcy hF5 HI
   go_upto_region 3 with fail
   rw[HW5.out.1,HW5.out.2]
   clear e0 e1 e2 e3 e4
   by_cases hk:y.kind=1
   ·
    have q1:(y.kind==1)=true:=by rw[hk];rfl
    have he:=elemsN_1 y hk
    have HIH:=Lh (ih y.kids (w5.setCell ⟨g,1,none⟩ (.int .i64 (M+1))) g lv (M+1) p _ HK.out.1 HK.out.2 (by omega) (by have:=HX5.out.2.2.2.1;omega) (HX5.out.2.1.set _) (HX5.out.2.2.2.2.exc HP.out ((Exc.refl g w5).set (p:=⟨g,1,none⟩) rfl _)) HP.out)
    have HE:=Lh he
    clear hk he
    go_wp2_with fail
    refine HIH.out.mono ?_
    rintro e w6 ⟨rfl,hF6,hX6⟩
    have HN6:Hid (FB w6 g lv (n+(elemsL (ks.take (i+1)):Int))∧Exc g W w6):=Lh ⟨by rw[HX5.out.2.2.1,HE.out];rw[show M+((1+elemsL y.kids:Nat):Int)=M+1+(elemsL y.kids:Int) by omega];exact hF6,YY.Exc.trans' (HX5.out.1.set (p:=⟨g,1,none⟩) rfl _) hX6⟩
    clear HIH hF6 hX6 f1 f2 n0 n4
    go_wp2_with fail
    go_roundw
    case rel=>exact⟨i+1,by go_num,by omega,HN6⟩
    case measure=>simp only[downV];omega
   ·
    have q1:(y.kind==1)=false:=by rw[beq_eq_false_iff_ne];exact hk
    have he:=elemsN_0 y hk
    have HN6:Hid (FB w5 g lv (n+(elemsL (ks.take (i+1)):Int))∧Exc g W w5):=Lh ⟨by rw[HX5.out.2.2.1,he];simpa using HX5.out.2.1,HX5.out.1⟩
    clear hk he f1 f2
    go_wp2_with fail
    go_roundw
    case rel=>exact⟨i+1,by go_num,by omega,HN6⟩
    case measure=>simp only[downV];omega
  ·
   have hlI:¬(i:Int)< (ks.length:Int):=by omega
   have HN6:Hid (FB wr g lv (n+(elemsL ks:Int))∧Exc g W wr):=Lh (by have:=HI.out;rwa [List.take_of_length_le (by omega)]at this)
   clear HI
   go_wp2_with fail
   refine bodyPost_end (results_none rfl _ _ _) rfl ?_
   exact⟨rfl,HN6.out⟩
theorem skip_any:∀N:Nat,SkipP N:=by
 intro N
 induction N with
 | zero=>intro ks W g lv n p v hN;omega
 | succ N ih=>exact skip_step N ih
theorem or_any (x y:Int) (b:Nat) (W:World) (c0:W.cell? ⟨b,0,none⟩=some (.int .i64 x)) (c1:W.cell? ⟨b,1,none⟩=some (.int .i64 y)):
  Calls Tryz.prog 97 #[.slice (some ⟨b,0,none⟩) 2 2] W fun e w'=>e= .returned (.int .i64 (if x=0 then y else x))∧w'=W:=by
 obtain⟨R,hR⟩:∃R,(if x=0 then y else x)=R:=⟨_,rfl⟩
 rw[hR]
 have HR:=Lh hR
 clear hR
 go_enter Tryz.func97,Tryz.ntmps97
 go_wp2_with fail
 go_loopw [5,8] (fun _ t wr=>∃i:Nat,t= .int .i64 i∧wr=W∧i≤2∧Hid (1≤i→x=0)∧Hid (2≤i→y=0)) (fun _ t _=>downV 2 t)
 case atStart=>exact⟨0,rfl,rfl,Nat.zero_le _,Lh (by omega),Lh (by omega)⟩
 case round=>
  obtain⟨i,rfl,rfl,hi,HX,HY⟩:=hrel
  by_cases h0:i=0
  ·
   subst h0
   by_cases hx:x=0
   ·
    have q:(x !=0)=false:=by rw[hx];rfl
    have HXX:=Lh hx
    clear hx HX HY
    go_wp2_with fail
    go_roundw
    case rel=>exact⟨1,by go_num,by trivial,by first | trivial | omega,Lh fun _=>HXX.out,Lh (by omega)⟩
    case measure=>simp only[downV];omega
   ·
    have q:(x !=0)=true:=by rw[bne_iff_ne];exact hx
    have HN:=Lh (show x=R by rw[←HR.out,if_neg hx])
    clear hx HX HY
    go_wp2_with fail
    go_ret
    exact⟨by rw[←HN.out];rfl,rfl⟩
  ·
   by_cases h1:i=1
   ·
    subst h1
    have HXX:=Lh (HX.out (Nat.le_refl _))
    by_cases hy:y=0
    ·
     have q:(y !=0)=false:=by rw[hy];rfl
     have HYY:=Lh hy
     clear hy HX HY h0
     go_wp2_with fail
     go_roundw
     case rel=>exact⟨2,by go_num,by trivial,by first | trivial | omega,Lh fun _=>HXX.out,Lh fun _=>HYY.out⟩
     case measure=>simp only[downV];omega
    ·
     have q:(y !=0)=true:=by rw[bne_iff_ne];exact hy
     have HN:=Lh (show y=R by rw[←HR.out,if_pos HXX.out])
     clear hy HX HY h0
     go_wp2_with fail
     go_ret
     exact⟨by rw[←HN.out];rfl,rfl⟩
   ·
    obtain rfl:i=2:=by omega
    have HN:=Lh (show(0:Int)=R by rw[←HR.out,if_pos (HX.out (by omega)),HY.out (by omega)])
    clear HX HY h0 h1
    go_wp2_with fail
    go_ret
    exact⟨by rw[←HN.out];rfl,rfl⟩
theorem bless_eq:∀a b:Bytes,Op.bytesLess a b=lessB a b
 | [],[]=>rfl
 | [],_::_=>rfl
 | _::_,[]=>rfl
 | a::x,b::y=>by
  rw[Op.bytesLess,lessB,bless_eq x y]
  by_cases h:a=b
  ·
   subst h;rw[if_pos rfl,beq_self_eq_true,Bool.true_and,decide_eq_false (UInt8.lt_irrefl a),Bool.false_or]
  ·
   rw[if_neg h,beq_eq_false_iff_ne.2 h,Bool.false_and,Bool.or_false];rfl
def cmpI (a b:Bytes):Int:=if lessB a b=true then -1 else if lessB b a=true then 1 else 0
theorem nan_any (a:ByteArray) (W:World):Calls Tryz.prog 188 #[.string a] W fun e w'=>e= .returned (.bool false)∧w'=W:=by
 have q:(a.toList !=a.toList)=false:=bne_self_eq_false _
 go_enter Tryz.func188,Tryz.ntmps188
 go_wp2_with fail
 go_ret
 exact⟨rfl,rfl⟩
theorem cmpI_any (a b:Bytes) (W:World):Calls Tryz.prog 145 #[.string (bs a),.string (bs b)] W fun e w'=>e= .returned (.int .i64 (cmpI a b))∧w'=W:=by
 have HC:=Lh fun x=>nan_any x W
 have e1:Op.bytesLess (bs a).toList (bs b).toList=lessB a b:=by rw[bs_toList,bs_toList,bless_eq]
 by_cases hab:a=b
 ·
  subst hab
  have e3:((bs a).toList==(bs a).toList)=true:=beq_self_eq_true _
  have e4:Hid (cmpI a a=0):=Lh (by unfold cmpI;rw[lessB_irrefl];rfl)
  rw[lessB_irrefl]at e1
  rw[e4.out]
  go_enter Tryz.func145,Tryz.ntmps145
  go_wp2_with fail
  refine(HC.out _).mono ?_
  rintro e w1 ⟨rfl,rfl⟩
  go_wp2_with fail
  refine(HC.out _).mono ?_
  rintro e w2 ⟨rfl,rfl⟩
  go_wp2_with fail
  go_ret
  exact⟨rfl,rfl⟩
 ·
  have e3:((bs a).toList==(bs b).toList)=false:=bs_eqf hab
  cases hA:lessB a b with
  | true=>
   have e4:Hid (cmpI a b= -1):=Lh (by unfold cmpI;rw[hA];rfl)
   rw[hA]at e1
   rw[e4.out]
   clear hA hab
   go_enter Tryz.func145,Tryz.ntmps145
   go_wp2_with fail
   refine(HC.out _).mono ?_
   rintro e w1 ⟨rfl,rfl⟩
   go_wp2_with fail
   refine(HC.out _).mono ?_
   rintro e w2 ⟨rfl,rfl⟩
   go_wp2_with fail
   go_ret
   exact⟨rfl,rfl⟩
  | false=>
   have e4:Hid (cmpI a b=1):=Lh (by unfold cmpI;rw[hA,lessB_total _ _ hab hA];rfl)
   rw[hA]at e1
   rw[e4.out]
   clear hA hab
   go_enter Tryz.func145,Tryz.ntmps145
   go_wp2_with fail
   refine(HC.out _).mono ?_
   rintro e w1 ⟨rfl,rfl⟩
   go_wp2_with fail
   refine(HC.out _).mono ?_
   rintro e w2 ⟨rfl,rfl⟩
   go_wp2_with fail
   go_ret
   exact⟨rfl,rfl⟩
end Go.Proofs.YtcfibjiikhnfhaaGreatDoor
