/-
 The tree builder's count,put. Helper lemmas;no statement of the seat is proved here.
-/
import Derived.Test.YtcfibjiikhnfhaaGreatDoorU22
namespace Go.Proofs.YtcfibjiikhnfhaaGreatDoor
open Go.RowKit
set_option maxHeartbeats 32000000
set_option maxRecDepth 100000
set_option linter.unusedVariables false
set_option linter.unusedSimpArgs false
theorem s1Nodes:∀W,(sizeOf 24).run Tryz.prog W= .ok 1 W:=fun W=>by go_simp
def st5o (W:World) (b o:Nat) (a0 a1 a2 a3 a4:Value):World:=((((W.setCell ⟨b,o,none⟩ a0).setCell ⟨b,o+1,none⟩ a1).setCell ⟨b,o+2,none⟩ a2).setCell ⟨b,o+3,none⟩ a3).setCell ⟨b,o+4,none⟩ a4
theorem st5o_blk {W:World} {b:Nat} {cur:Array Value} {T:TypeId} {fz:Nat×Nat} (h:W.heap[b]? =some (.cells cur T fz)) (o:Nat) (a0 a1 a2 a3 a4:Value):(st5o W b o a0 a1 a2 a3 a4).heap[b]? =some (.cells (((((cur.setIfInBounds o a0).setIfInBounds (o+1) a1).setIfInBounds (o+2) a2).setIfInBounds (o+3) a3).setIfInBounds (o+4) a4) T fz):=
 blk_setc (blk_setc (blk_setc (blk_setc (blk_setc h))))
theorem st5o_keep (W:World) {b c:Nat} (hc:c≠b) (o:Nat) (a0 a1 a2 a3 a4:Value):(st5o W b o a0 a1 a2 a3 a4).heap[c]? =W.heap[c]? :=by
 unfold st5o
 rw[Below.heap_setCell _ _ _ _ (by simpa using hc),Below.heap_setCell _ _ _ _ (by simpa using hc),Below.heap_setCell _ _ _ _ (by simpa using hc),Below.heap_setCell _ _ _ _ (by simpa using hc),Below.heap_setCell _ _ _ _ (by simpa using hc)]
theorem st5o_chg (W:World) (b o:Nat) (a0 a1 a2 a3 a4:Value):Chg (fun c=>c=b) W (st5o W b o a0 a1 a2 a3 a4):=
 ((((set_chg W ⟨b,o,none⟩ a0).trans (set_chg _ ⟨b,o+1,none⟩ a1)).trans (set_chg _ ⟨b,o+2,none⟩ a2)).trans (set_chg _ ⟨b,o+3,none⟩ a3)).trans (set_chg _ ⟨b,o+4,none⟩ a4)
theorem take5 (cur:Array Value) (k:Nat) (us:List Value) (hus:us.length=k*5) (z0 z1 z2 z3 z4:Value) (h:cur.toList.take ((k+1)*5)=us++ [z0,z1,z2,z3,z4]) (a0 a1 a2 a3 a4:Value):
  (((((cur.setIfInBounds (k*5) a0).setIfInBounds (k*5+1) a1).setIfInBounds (k*5+2) a2).setIfInBounds (k*5+3) a3).setIfInBounds (k*5+4) a4).toList.take ((k+1)*5)=us++ [a0,a1,a2,a3,a4]:=by
 simp only[Array.toList_setIfInBounds,List.take_set,h]
 rw[←hus]
 simp only[List.set_append_right _ _ (Nat.le_refl us.length),List.set_append_right _ _ (Nat.le_add_right us.length _),Nat.sub_self,Nat.add_sub_cancel_left,List.set_cons_zero,List.set_cons_succ]
theorem own_blk {w:World} {base z n:Nat} {e:TypeId} {v:Value} {us:List Value} (h:w.ownsRow base e z v n us) (hn:0< n):∃b cap cur,v= .slice (some ⟨b,0,none⟩) n cap∧base≤b∧w.heap[b]? =some (.cells cur e (0,0))∧n≤cap∧cap≤maxLen∧cur.size=cap*z∧cur.toList.take (n*z)=us:=by
 rcases h.2 with⟨_,h0⟩ | ⟨g,cap,cur,rfl,h1⟩
 ·
  omega
 ·
  exact⟨g,cap,cur,rfl,h1⟩
theorem store_nin {W:World} {b o:Nat} {cur:Array Value} (h:W.heap[b]? =some (.cells cur 26 (0,0))) (ho:o+5≤cur.size) (k:Int) (nm tx:ByteArray) (ya:Option Addr) (na ca:Nat) (yk:Option Addr) (nk ck:Nat):
  (Instr.storeAt 26 (.pointer (some ⟨b,o,none⟩)) (.agg #[.int .i64 k,.string nm,.string tx,.slice ya na ca,.slice yk nk ck])).run Tryz.prog W= .ok () (st5o W b o (.int .i64 k) (.string nm) (.string tx) (.slice ya na ca) (.slice yk nk ck)):=by
 have hc:∀j,j< 5→∃u,W.cell? ⟨b,o+j,none⟩=some u:=fun j hj=>⟨_,blk_cell h (k:=o+j) (Array.getElem?_eq_getElem (by omega))⟩
 obtain⟨u0,c0⟩:=hc 0 (by omega)
 obtain⟨u1,c1⟩:=hc 1 (by omega)
 obtain⟨u2,c2⟩:=hc 2 (by omega)
 obtain⟨u3,c3⟩:=hc 3 (by omega)
 obtain⟨u4,c4⟩:=hc 4 (by omega)
 have f0:=blk_free (k:=o) h;have f1:=blk_free (k:=o+1) h;have f2:=blk_free (k:=o+2) h;have f3:=blk_free (k:=o+3) h;have f4:=blk_free (k:=o+4) h
 rw[Nat.add_zero]at c0
 unfold st5o
 go_simp
section
variable {ev:Operand→Value} {oi:Oper} {x lo:Operand} {i:Nat}
theorem exec_nidx {b n c:Nat} (ho:oi.op= .indexAddr 24 x lo) (hx:ev x= .slice (some ⟨b,0,none⟩) n c) (hl:ev lo= .int .i64 i) (h:i< n) (W:World):(execOp ev oi).run Tryz.prog W= .ok (.value (.pointer (some ⟨b,i*5,none⟩))) W:=by
 have h1:(i:Int)< (n:Int):=by omega
 have h0:(0:Int)≤(i:Int):=by omega
 simp only[execOp,ho,hx,hl]
 simp[go_sem,h1,h0]
end
theorem Chg.cell {M:Nat→Prop} {a w:World} (h:Chg M a w) {b o:Nat} {v:Value} (hb:¬M b∧b< a.heap.size) (hc:a.cell? ⟨b,o,none⟩=some v):w.cell? ⟨b,o,none⟩=some v:=(World.cell?_of_block (a:=⟨b,o,none⟩) (h.2 b hb.1 hb.2)).trans hc
section
variable {B0 g:Nat} {W0 W W':World} {L R:List Lv} {l:Lv} {ov:Value} {rn:Node} {ra rk:Value} {tx tx':Bytes} {nn nn':Nat} {rt rt':Bool}
theorem count_any (h:BT B0 g W0 W L ov rn ra rk tx nn rt) (n:Nat) (hn:nn+n≤4096):Calls Tryz.prog 106 #[.pointer (some ⟨g,0,none⟩),.int .i64 n] W fun e w'=>e= .returned (.bool true)∧BT B0 g W0 w' L ov rn ra rk tx (nn+n) rt∧Exc g W w':=by
 have hI:(nn:Int)+(n:Int)≤4096:=by omega
 have c9:=blk_cell h.blk (k:=9) rfl
 have f9:=blk_free (k:=9) h.blk
 obtain⟨w2,hw2⟩:∃X,W.setCell ⟨g,9,none⟩ (.int .i64 ((nn:Int)+(n:Int)))=X:=⟨_,rfl⟩
 have hX:Exc g W w2:=by rw[←hw2];exact(Exc.refl g W).set rfl _
 have h2:BT B0 g W0 w2 L ov rn ra rk tx (nn+n) rt:=h.gset hX (by rw[←hw2];exact blk_setc (k:=9) (u:= .int .i64 ((nn:Int)+(n:Int))) h.blk)
 have d9:w2.cell? ⟨g,9,none⟩=some (.int .i64 ((nn:Int)+(n:Int))):=blk_cell h2.blk (k:=9) rfl
 have HZ:=Lh (And.intro h2 hX)
 clear h h2 hX
 go_enter Tryz.func106,Tryz.ntmps106
 go_wp2_with fail
 go_ret
 exact⟨rfl,HZ.out⟩
theorem put_fin {wz xb xc:World} {k kc kb k3:Nat} {ka:Option Addr} {cur:Array Value} (h:BT B0 g W0 wz (l::R) ov rn ra rk tx nn rt) (x:Node) (xa xk:Option Addr) (xac xkc:Nat)
  (hxa:Rep wz (fun b=>¬Mut B0 g ov (l::R) b) (.slice xa x.attrs.length xac) (attrsD x.attrs)) (hxk:Rep wz (fun b=>¬Mut B0 g ov (l::R) b) (.slice xk x.kids.length xkc) (nodesD x.kids)) (hn:x.name.length≤65536) (ht:x.text.length≤65536)
  (hv:l.vk= .slice ka k kc∧l.n.kids.length=k) (us:List Value) (hus:Reps wz (fun b=>¬Mut B0 g ov (l::R) b∧some b≠Value.ownBlock (.slice ka k kc)∧b< wz.heap.size) us (l.n.kids.flatMap nodeC))
  (hxb:Ext (World.drew wz) xb) (hg3:xb.grownBy xc (Value.ownBlock (.slice ka k kc))) (hr3:xc.ownsRow (g+1) 26 5 (.slice (some ⟨kb,0,none⟩) (k+1) k3) (k+1) (us++ [.int .i64 0,.string ⟨#[]⟩,.string ⟨#[]⟩,.slice none 0 0,.slice none 0 0])) (ha3:(Value.slice (some ⟨kb,0,none⟩) (k+1) k3).ownBlock=Value.ownBlock (.slice ka k kc)∨(Value.slice (some ⟨kb,0,none⟩) (k+1) k3).ownBlock=some xb.heap.size)
  (hkb:g+1≤kb) (hbk:xc.heap[kb]? =some (.cells cur 26 (0,0))) (hk3:k+1≤k3) (hcs:cur.size=k3*5) (hct:cur.toList.take ((k+1)*5)=us++ [.int .i64 0,.string ⟨#[]⟩,.string ⟨#[]⟩,.slice none 0 0,.slice none 0 0]):
  xc.heap[kb]? =some (.cells cur 26 (0,0))∧k*5+5≤cur.size∧(xc.cell? ⟨l.b,4,none⟩=some l.vk∧xc.frozen? ⟨l.b,4,none⟩=false)∧((st5o xc kb (k*5) (.int .i64 x.kind) (.string (bs x.name)) (.string (bs x.text)) (.slice xa x.attrs.length xac) (.slice xk x.kids.length xkc)).cell? ⟨l.b,4,none⟩=some l.vk∧(st5o xc kb (k*5) (.int .i64 x.kind) (.string (bs x.name)) (.string (bs x.text)) (.slice xa x.attrs.length xac) (.slice xk x.kids.length xkc)).frozen? ⟨l.b,4,none⟩=false)∧
   (BT B0 g W0 ((st5o xc kb (k*5) (.int .i64 x.kind) (.string (bs x.name)) (.string (bs x.text)) (.slice xa x.attrs.length xac) (.slice xk x.kids.length xkc)).setCell ⟨l.b,4,none⟩ (.slice (some ⟨kb,0,none⟩) (k+1) k3)) ({l with n:=addKid l.n x,vk:= .slice (some ⟨kb,0,none⟩) (k+1) k3}::R) ov rn ra rk tx nn rt∧Chg (fun b=>b=l.b∨some b=l.vk.ownBlock) wz ((st5o xc kb (k*5) (.int .i64 x.kind) (.string (bs x.name)) (.string (bs x.text)) (.slice xa x.attrs.length xac) (.slice xk x.kids.length xkc)).setCell ⟨l.b,4,none⟩ (.slice (some ⟨kb,0,none⟩) (k+1) k3)))∧(xc.setCell ⟨l.b,4,none⟩ (.slice (some ⟨kb,0,none⟩) (k+1) k3)).heap[kb]? =some (.cells cur 26 (0,0))∧(BT B0 g W0 (st5o (xc.setCell ⟨l.b,4,none⟩ (.slice (some ⟨kb,0,none⟩) (k+1) k3)) kb (k*5) (.int .i64 x.kind) (.string (bs x.name)) (.string (bs x.text)) (.slice xa x.attrs.length xac) (.slice xk x.kids.length xkc)) ({l with n:=addKid l.n x,vk:= .slice (some ⟨kb,0,none⟩) (k+1) k3}::R) ov rn ra rk tx nn rt∧Chg (fun b=>b=l.b∨some b=l.vk.ownBlock) wz (st5o (xc.setCell ⟨l.b,4,none⟩ (.slice (some ⟨kb,0,none⟩) (k+1) k3)) kb (k*5) (.int .i64 x.kind) (.string (bs x.name)) (.string (bs x.text)) (.slice xa x.attrs.length xac) (.slice xk x.kids.length xkc))):=by
 obtain⟨hv,hk⟩:=hv
 have hl:=h.lv l (List.mem_cons_self ..)
 have hlt:=h.lvlt (List.mem_cons_self ..)
 have hE:Ext wz xb:=((Ext.refl wz).drew).trans hxb
 have hC:Chg (fun b=>some b=l.vk.ownBlock) wz xc:=by rw[hv];exact hE.chg.trans (grown_chg hg3)
 have hne:some l.b≠l.vk.ownBlock:=fun e=>by have:=hl.lt _ e.symm;omega
 have hlb:=(hC.2 l.b hne hlt.1).trans hl.blk
 have hkl:kb≠l.b:=fun e=>by
  rcases ha3 with h1 | h1
  ·
   exact hne (by rw[hv,←h1,←e];rfl)
  ·
   have h2:kb=xb.heap.size:=Option.some.inj h1
   have:=hE.size
   omega
 have ha:(Value.slice (some ⟨kb,0,none⟩) (k+1) k3).ownBlock=l.vk.ownBlock∨∃j,(Value.slice (some ⟨kb,0,none⟩) (k+1) k3).ownBlock=some j∧wz.heap.size≤j:=by
  rcases ha3 with h1 | h1
  ·
   exact .inl (by rw[hv];exact h1)
  ·
   exact .inr ⟨_,h1,hE.size⟩
 have hul:us.length=k*5:=by
  have:=hr3.1
  rw[List.length_append]at this
  simp only[List.length_cons,List.length_nil]at this
  omega
 have hkM:∀b,kb=b→b< wz.heap.size→some b=l.vk.ownBlock:=fun b e hb=>by
  rcases ha with h1 | ⟨j,h1,h2⟩
  ·
   rw[←h1,←e];rfl
  ·
   have:kb=j:=Option.some.inj h1
   omega
 have hfin:∀W3:World,W3.heap[l.b]? =some (.cells #[.int .i64 l.n.kind,.string (bs l.n.name),.string (bs l.n.text),l.va,.slice (some ⟨kb,0,none⟩) (k+1) k3] 26 (0,0))→W3.heap[kb]? =some (.cells (((((cur.setIfInBounds (k*5) (.int .i64 x.kind)).setIfInBounds (k*5+1) (.string (bs x.name))).setIfInBounds (k*5+2) (.string (bs x.text))).setIfInBounds (k*5+3) (.slice xa x.attrs.length xac)).setIfInBounds (k*5+4) (.slice xk x.kids.length xkc)) 26 (0,0))→Chg (fun b=>b=l.b∨b=kb) xc W3→
   (BT B0 g W0 W3 ({l with n:=addKid l.n x,vk:= .slice (some ⟨kb,0,none⟩) (k+1) k3}::R) ov rn ra rk tx nn rt∧Chg (fun b=>b=l.b∨some b=l.vk.ownBlock) wz W3):=fun W3 h1 h2 h3=>by
  have hCW:Chg (fun b=>b=l.b∨some b=l.vk.ownBlock) wz W3:=by
   refine⟨Nat.le_trans hC.1 h3.1,fun b hb hlb=> ?_,h3.3.1.trans hC.3.1,h3.3.2.1.trans hC.3.2.1,h3.3.2.2.trans hC.3.2.2⟩
   refine(h3.2 b (fun e=> ?_) (Nat.lt_of_lt_of_le hlb hC.1)).trans (hC.2 b (fun e=>hb (.inr e)) hlb)
   rcases e with e | e
   ·
    exact hb (.inl e)
   ·
    exact hb (.inr (hkM b e.symm hlb))
  refine⟨put_leaf h (us:=us) x (.slice xa x.attrs.length xac) (.slice xk x.kids.length xkc) hCW h1 ?_ (by rw[hv];exact hus) ha hxa hxk hn ht,hCW⟩
  ·
   rw[hk]
   exact⟨by rw[List.length_append,hul];simp only[List.length_cons,List.length_nil];omega,.inr ⟨kb,k3,_,rfl,hkb,h2,hk3,(by have:=hr3.2;rcases this with⟨e,_⟩ | ⟨g',c',cu',e,_,_,_,hm,_⟩;cases e;cases e;exact hm),by simpa using hcs,take5 cur k us hul _ _ _ _ _ hct _ _ _ _ _⟩⟩
 have hb2:(xc.setCell ⟨l.b,4,none⟩ (.slice (some ⟨kb,0,none⟩) (k+1) k3)).heap[kb]? =some (.cells cur 26 (0,0)):=(Below.heap_setCell _ _ _ _ hkl).trans hbk
 have hlb5:=(st5o_keep xc (b:=kb) (c:=l.b) (Ne.symm hkl) (k*5) (.int .i64 x.kind) (.string (bs x.name)) (.string (bs x.text)) (.slice xa x.attrs.length xac) (.slice xk x.kids.length xkc)).trans hlb
 refine⟨hbk,by rw[hcs];omega,⟨blk_cell hlb (k:=4) rfl,blk_free hlb⟩,⟨blk_cell hlb5 (k:=4) rfl,blk_free hlb5⟩,hfin _ (blk_setc (k:=4) (u:= .slice (some ⟨kb,0,none⟩) (k+1) k3) hlb5) ((Below.heap_setCell _ _ _ _ hkl).trans (st5o_blk hbk _ _ _ _ _ _)) (((st5o_chg xc kb _ _ _ _ _ _).imp fun b e=> .inr e).trans ((set_chg _ ⟨l.b,4,none⟩ _).imp fun b e=> .inl e)),hb2,hfin _ ((st5o_keep _ (b:=kb) (c:=l.b) (Ne.symm hkl) _ _ _ _ _ _).trans (blk_setc (k:=4) (u:= .slice (some ⟨kb,0,none⟩) (k+1) k3) hlb)) (st5o_blk hb2 _ _ _ _ _ _) (((set_chg _ ⟨l.b,4,none⟩ _).imp fun b e=> .inl e).trans ((st5o_chg _ kb _ _ _ _ _ _).imp fun b e=> .inr e))⟩
theorem put_top (h:BT B0 g W0 W (l::R) ov rn ra rk tx nn rt) (x:Node) (va vk:Value) (hxa:Rep W (fun b=>¬Mut B0 g ov (l::R) b) va (attrsD x.attrs)) (hxk:Rep W (fun b=>¬Mut B0 g ov (l::R) b) vk (nodesD x.kids)) (hxn:x.name.length≤65536) (hxt:x.text.length≤65536) (hkl:l.n.kids.length≤1048576) (hRl:R.length≤1000):
  Calls Tryz.prog 108 #[.pointer (some ⟨g,0,none⟩),.agg #[.int .i64 x.kind,.string (bs x.name),.string (bs x.text),va,vk]] W fun e w'=>e= .returned (.tuple #[])∧(∃vk',BT B0 g W0 w' ({l with n:=addKid l.n x,vk:=vk'}::R) ov rn ra rk tx nn rt)∧Chg (Mut B0 g ov (l::R)) W w':=by
 obtain⟨i0,hi,hz0,hz1,hz2⟩:=info_parts infoNode
 obtain⟨xa,xac,rfl,_,_⟩:=hxa.count z_attr (by omega)
 obtain⟨xk,xkc,rfl,_,_⟩:=hxk.count z_node (by omega)
 obtain⟨ka,kc,hvk,_,_⟩:=(h.lv l (List.mem_cons_self ..)).vk.form
 obtain⟨k,hk⟩:∃k,l.n.kids.length=k:=⟨_,rfl⟩
 rw[hk]at hvk hkl
 obtain⟨ob,oc,ocur,hov,hob,_,hoc,_,_,_⟩:=own_blk h.row (Nat.succ_pos _)
 obtain⟨w1,hw1⟩:∃X,W.alloc (.cells #[.int .i64 x.kind,.string (bs x.name),.string (bs x.text),.slice xa x.attrs.length xac,.slice xk x.kids.length xkc] 26)=X:=⟨_,rfl⟩
 obtain⟨t3,ht3⟩:∃t,W.heap.size=t:=⟨_,rfl⟩
 have hE1:Ext W w1:=by rw[←hw1];exact(Ext.refl W).alloc _
 have hb1:w1.heap[t3]? =some (.cells #[.int .i64 x.kind,.string (bs x.name),.string (bs x.text),.slice xa x.attrs.length xac,.slice xk x.kids.length xkc] 26 (0,0)):=by rw[←hw1,←ht3];exact Array.getElem?_push_size ..
 have h1:=h.ext' hE1
 have c7:=blk_cell h1.blk (k:=7) rfl
 rw[hov]at c7
 have hrc:w1.cell? ⟨ob,R.length,none⟩=some (.pointer (some ⟨l.b,0,none⟩)):=by
  have hr:=h1.row
  rw[hov]at hr
  have:=hr.cells (g:=ob) rfl R.length (.pointer (some ⟨l.b,0,none⟩)) (by rw[List.getElem?_map,List.reverse_cons,List.getElem?_append_right (by simp)];simp)
  rw[add_offs',Nat.zero_add]at this
  exact this
 obtain⟨N,hN⟩:∃N,R.length=N:=⟨_,rfl⟩
 have hcl:(l::R).length=N+1:=by rw[List.length_cons,hN]
 rw[hcl]at c7
 rw[hN]at hrc hRl
 have hp0:(0:Int)< (N:Int)+1:=by omega
 have hNI:(N:Int)< (N:Int)+1:=by omega
 have hNo:N< oc:=by omega
 have hN0:(0:Int)≤(N:Int):=by omega
 have HB1:=Lh (And.intro h1 (And.intro hb1 (And.intro (hxa.ext hE1) (hxk.ext hE1))))
 have hgt:g< t3:=by have:=blk_lt h.blk;omega
 have hlbt:l.b< t3:=by have:=(h.lvlt (List.mem_cons_self ..)).1;omega
 have hVT:∀j,l.vk.ownBlock=some j→j< t3:=fun j hj=>by have:=(h.lvlt (List.mem_cons_self ..)).2 j hj;omega
 have HV:=Lh (And.intro hvk (And.intro hk hVT))
 have HE1:=Lh hE1
 clear h hxa hxk h1 hb1 hE1 hov hcl hN hVT hvk hk
 go_enter Tryz.func108,Tryz.ntmps108
 go_wp2_with fail
 try rw[ht3]
 have hsub:((N:Int)+1) - 1=(N:Int):=by omega
 have hwr:IntKind.i64.wrap (N:Int)=(N:Int):=by rw[IntKind.wrap_i64];omega
 go_quiet (fail)
 obtain⟨wz,hwz⟩:∃w,w1.drewN nq=w:=⟨_,rfl⟩
 have Ehwz:Ext w1 wz:=by rw[←hwz];exact(Ext.refl w1).drewN _
 rw[hwz]
 have HB:=Lh (HB1.out.1.ext' Ehwz)
 have hbz:=(Below.block Ehwz t3 (blk_lt HB1.out.2.1)).trans HB1.out.2.1
 have HXA:=Lh (HB1.out.2.2.1.ext Ehwz)
 have HXK:=Lh (HB1.out.2.2.2.ext Ehwz)
 have hgz:g+1≤wz.heap.size:=blk_lt HB.out.blk
 have hwz':=HV.out
 obtain⟨us,hrz,hus⟩:=(HB.out.lv l (List.mem_cons_self ..)).vk
 rw[hwz'.2.1,hwz'.1]at hrz
 rw[hwz'.1]at hus
 have hlvb:=(HB.out.lv l (List.mem_cons_self ..)).blk
 rw[hwz'.1]at hlvb
 have k4:=blk_cell hlvb (k:=4) rfl
 have y0:=blk_cell hbz (k:=0) rfl;have y1:=blk_cell hbz (k:=1) rfl;have y2:=blk_cell hbz (k:=2) rfl;have y3:=blk_cell hbz (k:=3) rfl;have y4:=blk_cell hbz (k:=4) rfl
 have hlbo:¬some l.b=Value.ownBlock (.slice ka k kc):=fun e=>by
  have h1:=(HB.out.lv l (List.mem_cons_self ..)).lt l.b (by rw[hwz'.1];exact e.symm)
  omega
 have hlbl:l.b< wz.heap.size:=blk_lt hlvb
 have ht3o:¬some t3=Value.ownBlock (.slice ka k kc):=fun e=>by
  have h1:=hwz'.2.2 t3 (by rw[hwz'.1];exact e.symm)
  omega
 have ht3l:t3< wz.heap.size:=blk_lt hbz
 have HEZ:=Lh (show Ext W wz from HE1.out.trans Ehwz)
 clear hwz c7 hrc hp0 hNI hNo hN0 hsub hwr hlvb hbz Ehwz HB1 hlbt
 go_wp2_with fail
 refine region_merge (fun ac ac' w'=>∃(gb:Nat) (kb:Nat) (k3:Nat),ac'=(((((((((((ac.put (some 37) (.pointer (some ⟨l.b,0,none⟩))).put (some 38) (.pointer (some ⟨l.b,0,none⟩))).put (some 39) (.pointer (some ⟨l.b,4,none⟩))).put (some 40) (.slice ka k kc)).put (some 41) (.agg #[.int .i64 x.kind,.string (bs x.name),.string (bs x.text),.slice xa x.attrs.length xac,.slice xk x.kids.length xkc])).put (some 42) (.int .i64 k)).put (some 43) (.slice (some ⟨gb,0,none⟩) 1 1)).put (some 44) (.slice (some ⟨kb,0,none⟩) (k+1) k3)).put (some 45) (.pointer (some ⟨kb,k*5,none⟩))).put (some 46) (.pointer (some ⟨l.b,0,none⟩))).put (some 47) (.pointer (some ⟨l.b,4,none⟩)))∧(BT B0 g W0 w' ({l with n:=addKid l.n x,vk:= .slice (some ⟨kb,0,none⟩) (k+1) k3}::R) ov rn ra rk tx nn rt∧Chg (fun b=>b=l.b∨some b=l.vk.ownBlock) wz w')) ?_ ?_
 ·
  refine rg_cut (S:=Chg (fun b=>some b=Value.ownBlock (.slice ka k kc)) wz) 8 (by kernel_rfl) (by kernel_rfl) (by kernel_rfl) (by kernel_rfl) (Ext.chg ((Ext.refl wz).drew)) ?_
  have hSy:Chg (fun b=>some b=Value.ownBlock (.slice ka k kc)) wz (World.drew wz):=(Ext.chg ((Ext.refl wz).drew))
  refine rg_t 0 (some 37) (.pointer (some ⟨l.b,0,none⟩)) rfl hSy (fun w' hs=>by rfl) ?_
  simp only[Act.put,sA,sZ,sS]
  refine rg_t 1 (some 38) (.pointer (some ⟨l.b,0,none⟩)) rfl hSy (fun w' hs=>by first | rfl | go_simp) ?_
  simp only[Act.put,sA,sZ,sS]
  refine rg_t 2 (some 39) (.pointer (some ⟨l.b,4,none⟩)) rfl hSy (fun w' hs=>by first | rfl | go_simp) ?_
  simp only[Act.put,sA,sZ,sS]
  refine rg_t 3 (some 40) (.slice ka k kc) rfl hSy (fun w' hs=>by(have h0:=hs.cell ⟨hlbo,hlbl⟩ k4;go_simp)) ?_
  simp only[Act.put,sA,sZ,sS]
  refine rg_t 4 (some 41) (.agg #[.int .i64 x.kind,.string (bs x.name),.string (bs x.text),.slice xa x.attrs.length xac,.slice xk x.kids.length xkc]) rfl hSy (fun w' hs=>by(have h0:=hs.cell ⟨ht3o,ht3l⟩ y0;have h1:=hs.cell ⟨ht3o,ht3l⟩ y1;have h2:=hs.cell ⟨ht3o,ht3l⟩ y2;have h3:=hs.cell ⟨ht3o,ht3l⟩ y3;have h4:=hs.cell ⟨ht3o,ht3l⟩ y4;go_simp)) ?_
  simp only[Act.put,sA,sZ,sS]
  refine rg_t 5 (some 42) (.int .i64 k) rfl hSy (fun w' hs=>by first | rfl | go_simp) ?_
  simp only[Act.put,sA,sZ,sS]
  refine rg_one 6 (by kernel_rfl) ?_
  refine tk_new 6 (some 43) (.cells #[.int .i64 0,.string ⟨#[]⟩,.string ⟨#[]⟩,.slice none 0 0,.slice none 0 0] 26) (fun n=> .slice (some ⟨n,0,none⟩) 1 1) rfl rfl (by rfl) (by first | rfl | go_simp) ?_
  intro gb xb egb hxb hzxb hCb
  have hSb:Chg (fun b=>some b=Value.ownBlock (.slice ka k kc)) wz xb:=hSy.trans hxb.chg
  refine⟨hSb,?_⟩
  simp only[Act.put,sA,sZ,sS]
  have hbse:g+1≤xb.heap.size:=Nat.le_trans hgz hSb.1
  refine rg_one 7 (by kernel_rfl) ?_
  refine tk_src 7 (some 44) rfl rfl (by rfl) (.tmp 40) (.tmp 43) 24 rfl (g+1) 26 i0 (.agg #[.int .i64 0,.string ⟨#[]⟩,.string ⟨#[]⟩,.slice none 0 0,.slice none 0 0]) 5 88 Tryz.underlying24 hi hz0 hz1 hz2 rfl (by decide) (.slice ka k kc) k us rfl (rows_ext hrz (((Ext.refl wz).drew).trans hxb)) (.slice (some ⟨gb,0,none⟩) 1 1) 1 [.int .i64 0,.string ⟨#[]⟩,.string ⟨#[]⟩,.slice none 0 0,.slice none 0 0] rfl (Src.block hCb rfl) (by intro u hu;simp at hu;rcases hu with rfl | rfl | rfl | rfl | rfl<;> rfl) (by unfold maxLen;omega) (by omega) hbse ?_
  intro v3 xc hr3 hg3 ha3
  have hSc:Chg (fun b=>some b=Value.ownBlock (.slice ka k kc)) wz xc:=hSb.trans (grown_chg hg3)
  refine⟨hSc,?_⟩
  simp only[Act.put,sA,sZ,sS]
  obtain⟨kb,k3,cur,rfl,hkb,hbk,hk3,hkm,hcs,hct⟩:=own_blk hr3 (Nat.succ_pos _)
  have hF:=Lh (put_fin HB.out x xa xk xac xkc HXA.out HXK.out hxn hxt ⟨hwz'.1,hwz'.2.1⟩ us hus hxb hg3 hr3 ha3 hkb hbk hk3 hcs hct)
  refine rg_done (by kernel_rfl) ?_
  refine rg_go 5 #[true,true,true,true,true,true,true,true,false,false,false,false,false] (by kernel_rfl) (by kernel_rfl) fun m=> ?_
  refine rg_t 8 (some 45) (.pointer (some ⟨kb,k*5,none⟩)) rfl trivial (fun w' hs=>by exact exec_nidx (i:=k) rfl rfl rfl (by omega) _) ?_
  simp only[Act.put,sA,sZ,sS]
  refine rg_t 10 (some 46) (.pointer (some ⟨l.b,0,none⟩)) rfl trivial (fun w' hs=>by first | rfl | go_simp) ?_
  simp only[Act.put,sA,sZ,sS]
  refine rg_t 11 (some 47) (.pointer (some ⟨l.b,4,none⟩)) rfl trivial (fun w' hs=>by first | rfl | go_simp) ?_
  simp only[Act.put,sA,sZ,sS]
  refine rg_two 9 12 (by kernel_rfl) ?_ ?_
  ·
   refine tk_write 9 none (st5o xc kb (k*5) (.int .i64 x.kind) (.string (bs x.name)) (.string (bs x.text)) (.slice xa x.attrs.length xac) (.slice xk x.kids.length xkc)) rfl rfl (by rfl) (exec_store rfl (store_nin hF.out.1 hF.out.2.1 _ _ _ _ _ _ _ _ _)) ?_
   refine⟨trivial,?_⟩
   simp only[Act.put,sA,sZ,sS]
   refine rg_one 12 (by kernel_rfl) ?_
   refine tk_write 12 none ((st5o xc kb (k*5) (.int .i64 x.kind) (.string (bs x.name)) (.string (bs x.text)) (.slice xa x.attrs.length xac) (.slice xk x.kids.length xkc)).setCell ⟨l.b,4,none⟩ (.slice (some ⟨kb,0,none⟩) (k+1) k3)) rfl rfl (by rfl) (exec_store rfl (store_slice _ s1Nodes (hF.out.2.2.2.1).1 (hF.out.2.2.2.1).2 _ _ _)) ?_
   refine⟨trivial,?_⟩
   simp only[Act.put,sA,sZ,sS]
   refine rg_done (by kernel_rfl) ?_
   exact⟨gb,kb,k3,(by first | rfl | simp only[Act.put,sA,sZ,sS]),hF.out.2.2.2.2.1⟩
  ·
   refine tk_write 12 none (xc.setCell ⟨l.b,4,none⟩ (.slice (some ⟨kb,0,none⟩) (k+1) k3)) rfl rfl (by rfl) (exec_store rfl (store_slice _ s1Nodes (hF.out.2.2.1).1 (hF.out.2.2.1).2 _ _ _)) ?_
   refine⟨trivial,?_⟩
   simp only[Act.put,sA,sZ,sS]
   refine rg_one 9 (by kernel_rfl) ?_
   refine tk_write 9 none (st5o (xc.setCell ⟨l.b,4,none⟩ (.slice (some ⟨kb,0,none⟩) (k+1) k3)) kb (k*5) (.int .i64 x.kind) (.string (bs x.name)) (.string (bs x.text)) (.slice xa x.attrs.length xac) (.slice xk x.kids.length xkc)) rfl rfl (by rfl) (exec_store rfl (store_nin hF.out.2.2.2.2.2.1 hF.out.2.1 _ _ _ _ _ _ _ _ _)) ?_
   refine⟨trivial,?_⟩
   simp only[Act.put,sA,sZ,sS]
   refine rg_done (by kernel_rfl) ?_
   exact⟨gb,kb,k3,(by first | rfl | simp only[Act.put,sA,sZ,sS]),hF.out.2.2.2.2.2.2⟩
 rintro _ w9 ⟨gb,kb,k3,rfl,hT9⟩
 simp only[Act.put,sA,sZ,sS]
 go_wp2_with fail
 exact bodyPost_end (results_none rfl _ _ _) rfl ⟨rfl,⟨_,hT9.1⟩,HEZ.out.chg.trans (hT9.2.imp fun b e=> .inr (.inr ⟨l,List.mem_cons_self ..,e⟩))⟩
end
theorem s1Ptrs:∀W,(sizeOf 71).run Tryz.prog W= .ok 1 W:=fun W=>by go_simp
theorem exec_ptake {ev:Operand→Value} {oi:Oper} {x hi:Operand} {b n c i:Nat} (ho:oi.op= .slice 71 x none (some hi) none) (hx:ev x= .slice (some ⟨b,0,none⟩) n c) (hh:ev hi= .int .i64 i) (h:i≤c) (W:World):(execOp ev oi).run Tryz.prog W= .ok (.value (.slice (some ⟨b,0,none⟩) i c)) W:=by
 refine exec_slice ho ?_
 simp only[hx,Option.map_some,Option.map_none,hh]
 rw[run_sliceAt_slice W 71 _ _ _ _ (by kernel_rfl),run_slice_h W 71 _ n c (by kernel_rfl) .i64 _ (by omega) (by omega)]
 simp[go_sem,Addr.add]
section
variable {B0 g:Nat} {W0 W W':World} {L R:List Lv} {l:Lv} {ov:Value} {rn:Node} {ra rk:Value} {tx tx':Bytes} {nn nn':Nat} {rt rt':Bool}
theorem BT.len (h:BT B0 g W0 W L ov rn ra rk tx nn rt):∃oa oc,ov= .slice oa L.length oc:=by
 rcases h.row.2 with⟨e,h0⟩ | ⟨b,cap,cur,e,_⟩
 ·
  exact⟨none,0,by rw[e,h0]⟩
 ·
  exact⟨_,cap,e⟩
theorem put_root (h:BT B0 g W0 W [] ov rn ra rk tx nn rt) (x:Node) (hx1:x.kind=1) (va vk:Value) (hxa:Rep W (fun b=>¬Mut B0 g ov [] b) va (attrsD x.attrs)) (hxk:Rep W (fun b=>¬Mut B0 g ov [] b) vk (nodesD x.kids)):
  Calls Tryz.prog 108 #[.pointer (some ⟨g,0,none⟩),.agg #[.int .i64 x.kind,.string (bs x.name),.string (bs x.text),va,vk]] W fun e w'=>e= .returned (.tuple #[])∧BT B0 g W0 w' [] ov x va vk tx nn true:=by
 obtain⟨xa,xac,rfl,_,_⟩:=hxa.count z_attr (by omega)
 obtain⟨xk,xkc,rfl,_,_⟩:=hxk.count z_node (by omega)
 obtain⟨oa,oc,hov⟩:=h.len
 rw[hx1]
 obtain⟨w1,hw1⟩:∃X,W.alloc (.cells #[.int .i64 1,.string (bs x.name),.string (bs x.text),.slice xa x.attrs.length xac,.slice xk x.kids.length xkc] 26)=X:=⟨_,rfl⟩
 obtain⟨t3,ht3⟩:∃t,W.heap.size=t:=⟨_,rfl⟩
 have hE1:Ext W w1:=by rw[←hw1];exact(Ext.refl W).alloc _
 have hb1:w1.heap[t3]? =some (.cells #[.int .i64 1,.string (bs x.name),.string (bs x.text),.slice xa x.attrs.length xac,.slice xk x.kids.length xkc] 26 (0,0)):=by rw[←hw1,←ht3];exact Array.getElem?_push_size ..
 have h1:=h.ext' hE1
 have c1:=blk_cell h1.blk (k:=1) rfl;have c2:=blk_cell h1.blk (k:=2) rfl;have c3:=blk_cell h1.blk (k:=3) rfl;have c4:=blk_cell h1.blk (k:=4) rfl;have c5:=blk_cell h1.blk (k:=5) rfl;have c7:=blk_cell h1.blk (k:=7) rfl;have c10:=blk_cell h1.blk (k:=10) rfl
 have f1:=blk_free (k:=1) h1.blk;have f2:=blk_free (k:=2) h1.blk;have f3:=blk_free (k:=3) h1.blk;have f4:=blk_free (k:=4) h1.blk;have f5:=blk_free (k:=5) h1.blk;have f7:=blk_free (k:=7) h1.blk;have f10:=blk_free (k:=10) h1.blk
 have y0:=blk_cell hb1 (k:=0) rfl;have y1:=blk_cell hb1 (k:=1) rfl;have y2:=blk_cell hb1 (k:=2) rfl;have y3:=blk_cell hb1 (k:=3) rfl;have y4:=blk_cell hb1 (k:=4) rfl
 rw[hov]at c7
 obtain⟨w9,hw9⟩:∃X,(((((w1.setCell ⟨g,1,none⟩ (.int .i64 1)).setCell ⟨g,2,none⟩ (.string (bs x.name))).setCell ⟨g,3,none⟩ (.string (bs x.text))).setCell ⟨g,4,none⟩ (.slice xa x.attrs.length xac)).setCell ⟨g,5,none⟩ (.slice xk x.kids.length xkc)).setCell ⟨g,10,none⟩ (.bool true)=X:=⟨_,rfl⟩
 have hX9:Exc g w1 w9:=by rw[←hw9];exact((((((Exc.refl g w1).set rfl _).set rfl _).set rfl _).set rfl _).set rfl _).set rfl _
 have hb9:=blk_setc (k:=10) (u:= .bool true) (blk_setc (k:=5) (u:= .slice xk x.kids.length xkc) (blk_setc (k:=4) (u:= .slice xa x.attrs.length xac) (blk_setc (k:=3) (u:= .string (bs x.text)) (blk_setc (k:=2) (u:= .string (bs x.name)) (blk_setc (k:=1) (u:= .int .i64 1) h1.blk)))))
 rw[hw9]at hb9
 have HZ:=Lh (root_leaf h1 x (.slice xa x.attrs.length xac) (.slice xk x.kids.length xkc) hX9 (by rw[hx1];exact hb9) (hxa.ext hE1) (hxk.ext hE1))
 clear h hxa hxk h1 hb1 hE1 hov hX9 hb9
 go_enter Tryz.func108,Tryz.ntmps108
 go_wp2_with fail
 exact bodyPost_end (results_none rfl _ _ _) rfl ⟨rfl,HZ.out⟩
theorem flush0 (h:BT B0 g W0 W L ov rn ra rk [] nn rt):Calls Tryz.prog 107 #[.pointer (some ⟨g,0,none⟩)] W fun e w'=>e= .returned (.tuple #[])∧w'=W:=by
 have c8:=blk_cell h.blk (k:=8) rfl
 have hte:(bs []).toList.isEmpty=true:=by rw[bs_toList];rfl
 clear h
 go_enter Tryz.func107,Tryz.ntmps107
 go_wp2_with fail
 exact bodyPost_end (results_none rfl _ _ _) rfl ⟨rfl,rfl⟩
def textN (tx:Bytes):Node:= .mk 2 [] tx [] []
def flN (n:Node) (tx:Bytes):Node:=if tx= []then n else addKid n (textN tx)
theorem flush_any (h:BT B0 g W0 W (l::R) ov rn ra rk tx nn rt) (htx:tx.length≤65536) (hkl:l.n.kids.length≤1048576) (hRl:R.length≤1000):
  Calls Tryz.prog 107 #[.pointer (some ⟨g,0,none⟩)] W fun e w'=>e= .returned (.tuple #[])∧(∃l',l'.n=flN l.n tx∧BT B0 g W0 w' (l'::R) ov rn ra rk [] nn rt)∧Chg (Mut B0 g ov (l::R)) W w':=by
 by_cases h0:tx= []
 ·
  subst h0
  refine(flush0 h).mono ?_
  rintro e w' ⟨rfl,rfl⟩
  exact⟨rfl,⟨l,by simp[flN],h⟩,(Ext.refl _).chg⟩
 ·
  have c8:=blk_cell h.blk (k:=8) rfl
  have hte:(bs tx).toList.isEmpty=false:=by rw[bs_toList];cases tx with
   | nil=>exact absurd rfl h0
   | cons a b=>rfl
  have HP:=Lh (put_top h (textN tx) (.slice none 0 0) (.slice none 0 0) (.nil 2) (.nil 5) (Nat.zero_le _) htx hkl hRl)
  clear h
  go_enter Tryz.func107,Tryz.ntmps107
  go_wp2_with fail
  refine HP.out.mono ?_
  rintro e w1 ⟨rfl,⟨vk',h1⟩,hC1⟩
  clear HP c8
  have c8:=blk_cell h1.blk (k:=8) rfl
  have f8:=blk_free (k:=8) h1.blk
  obtain⟨w2,hw2⟩:∃X,w1.setCell ⟨g,8,none⟩ (.string ⟨#[]⟩)=X:=⟨_,rfl⟩
  have h2:=h1.gset (W':=w2) (tx':= []) (nn':=nn) (rt':=rt) (by rw[←hw2];exact(Exc.refl g w1).set rfl _) (by rw[←hw2];exact blk_setc (k:=8) (u:= .string ⟨#[]⟩) h1.blk)
  have hC2:Chg (Mut B0 g ov (l::R)) W w2:=hC1.trans (by rw[←hw2];exact(set_chg w1 ⟨g,8,none⟩ _).imp fun b e=> .inl (.inr e))
  have HZ:=Lh (And.intro h2 hC2)
  clear h1 h2 hC1 hC2
  go_wp2_with fail
  exact bodyPost_end (results_none rfl _ _ _) rfl ⟨rfl,⟨_,by simp[flN,h0],HZ.out.1⟩,HZ.out.2⟩
theorem own_less {w:World} {base n cap:Nat} {e:TypeId} {a:Option Addr} {us:List Value} {u:Value} (h:w.ownsRow base e 1 (.slice a (n+1) cap) (n+1) (us++ [u])):w.ownsRow base e 1 (.slice a n cap) n us:=by
 obtain⟨b,c,cur,e1,hb,hg,hc,hm,hs,ht⟩:=own_blk h (Nat.succ_pos _)
 cases e1
 have hl:=h.1
 rw[List.length_append,List.length_singleton]at hl
 refine⟨by omega,.inr ⟨b,cap,cur,rfl,hb,hg,by omega,hm,hs,?_⟩⟩
 rw[Nat.mul_one]at ht
 have h1:=congrArg (List.take n) ht
 rw[List.take_take,show min n (n+1)=n by omega,List.take_append_of_le_length (by omega)]at h1
 rw[Nat.mul_one,h1]
 exact List.take_of_length_le (by omega)
theorem bend_core (POST:World→Prop) (h:BT B0 g W0 W (l::R) ov rn ra rk tx nn rt) (htx:tx.length≤65536) (hkl:l.n.kids.length≤1048576) (hRl:R.length≤1000)
  (hput:∀(w3:World) (ov3:Value) (l':Lv),l'.n=flN l.n tx→l'.n.name.length≤65536∧l'.n.text.length≤65536→BT B0 g W0 w3 R ov3 rn ra rk [] nn rt→Rep w3 (fun b=>¬Mut B0 g ov3 R b) l'.va (attrsD l'.n.attrs)→Rep w3 (fun b=>¬Mut B0 g ov3 R b) l'.vk (nodesD l'.n.kids)→
   Calls Tryz.prog 108 #[.pointer (some ⟨g,0,none⟩),.agg #[.int .i64 l'.n.kind,.string (bs l'.n.name),.string (bs l'.n.text),l'.va,l'.vk]] w3 fun e w'=>e= .returned (.tuple #[])∧POST w'):
  Calls Tryz.prog 66 #[.pointer (some ⟨g,0,none⟩)] W fun e w'=>e= .returned (.tuple #[])∧POST w':=by
 have HPUT:=Lh hput
 clear hput
 have HF:=Lh (flush_any h htx hkl hRl)
 clear h
 go_enter Tryz.func66,Tryz.ntmps66
 go_wp2_with fail
 refine HF.out.mono ?_
 rintro e w1 ⟨rfl,⟨l',hl',h1⟩,_⟩
 clear HF
 obtain⟨ob,oc,ocur,hov,hob,_,hoc,_,_,_⟩:=own_blk h1.row (Nat.succ_pos _)
 have c7:=blk_cell h1.blk (k:=7) rfl
 rw[hov]at c7
 have hrc:w1.cell? ⟨ob,R.length,none⟩=some (.pointer (some ⟨l'.b,0,none⟩)):=by
  have hr:=h1.row
  rw[hov]at hr
  have:=hr.cells (g:=ob) rfl R.length (.pointer (some ⟨l'.b,0,none⟩)) (by rw[List.getElem?_map,List.reverse_cons,List.getElem?_append_right (by simp)];simp)
  rw[add_offs',Nat.zero_add]at this
  exact this
 obtain⟨N,hN⟩:∃N,R.length=N:=⟨_,rfl⟩
 have hcl:(l'::R).length=N+1:=by rw[List.length_cons,hN]
 rw[hcl]at c7
 rw[hN]at hrc hRl
 have hNI:(N:Int)< (N:Int)+1:=by omega
 have hNo:N< oc:=by omega
 have hN0:(0:Int)≤(N:Int):=by omega
 have hN1:(N:Int)≤(oc:Int):=by omega
 have hsub:((N:Int)+1) - 1=(N:Int):=by omega
 have hwr:IntKind.i64.wrap (N:Int)=(N:Int):=by rw[IntKind.wrap_i64];omega
 have HB:=Lh (And.intro h1 (And.intro hov (And.intro hcl hl')))
 clear h1 hov hcl hl'
 go_wp2_with fail
 go_quiet (fail)
 obtain⟨w2,hw2⟩:∃w,w1.drewN nq=w:=⟨_,rfl⟩
 have Ehw2:Ext w1 w2:=by rw[←hw2];exact(Ext.refl w1).drewN _
 rw[hw2]
 have h2:=HB.out.1.ext' Ehw2
 clear c7 hrc hw2
 have c7:=blk_cell h2.blk (k:=7) rfl
 have f7:=blk_free (k:=7) h2.blk
 rw[HB.out.2.1,HB.out.2.2.1]at c7
 have hlt2:=blk_lt h2.blk
 have HB2:=Lh h2
 clear h2 Ehw2 hsub hwr
 go_wp2_with fail
 refine rg_cut (S:=Sx w2) 14 (by kernel_rfl) (by kernel_rfl) (by kernel_rfl) (by kernel_rfl) (Sx.begin _) ?_
 have hSp:Sx w2 (World.drew w2):=(Sx.begin _)
 refine rg_t 0 (some 17) (.pointer (some ⟨g,0,none⟩)) rfl hSp (fun w' hs=>by rfl) ?_
 simp only[Act.put,sA,sZ,sS]
 refine rg_t 1 (some 18) (.pointer (some ⟨g,0,none⟩)) rfl hSp (fun w' hs=>by rfl) ?_
 simp only[Act.put,sA,sZ,sS]
 refine rg_t 2 (some 19) (.pointer (some ⟨g,0,none⟩)) rfl hSp (fun w' hs=>by first | rfl | go_simp) ?_
 simp only[Act.put,sA,sZ,sS]
 refine rg_t 3 (some 20) (.pointer (some ⟨g,7,none⟩)) rfl hSp (fun w' hs=>by first | rfl | go_simp) ?_
 simp only[Act.put,sA,sZ,sS]
 refine rg_t 4 (some 21) (.slice (some ⟨ob,0,none⟩) (N+1) oc) rfl hSp (fun w' hs=>by(have h0:=hs.cell hlt2 c7;go_simp)) ?_
 simp only[Act.put,sA,sZ,sS]
 refine rg_t 5 (some 22) (.pointer (some ⟨g,0,none⟩)) rfl hSp (fun w' hs=>by rfl) ?_
 simp only[Act.put,sA,sZ,sS]
 refine rg_t 6 (some 23) (.pointer (some ⟨g,0,none⟩)) rfl hSp (fun w' hs=>by first | rfl | go_simp) ?_
 simp only[Act.put,sA,sZ,sS]
 refine rg_t 7 (some 24) (.pointer (some ⟨g,7,none⟩)) rfl hSp (fun w' hs=>by first | rfl | go_simp) ?_
 simp only[Act.put,sA,sZ,sS]
 refine rg_t 8 (some 25) (.slice (some ⟨ob,0,none⟩) (N+1) oc) rfl hSp (fun w' hs=>by(have h0:=hs.cell hlt2 c7;go_simp)) ?_
 simp only[Act.put,sA,sZ,sS]
 refine rg_t 9 (some 26) (.int .i64 (N+1:Nat)) rfl hSp (fun w' hs=>by first | rfl | go_simp) ?_
 simp only[Act.put,sA,sZ,sS]
 refine rg_t 10 (some 27) (.int .i64 (N:Nat)) rfl hSp (fun w' hs=>by exact exec_sub (i:=N+1) (j:=1) rfl rfl rfl (by omega) (by omega) _) ?_
 simp only[Act.put,sA,sZ,sS]
 refine rg_t 11 (some 28) (.slice (some ⟨ob,0,none⟩) N oc) rfl hSp (fun w' hs=>by exact exec_ptake rfl rfl rfl (by omega) _) ?_
 simp only[Act.put,sA,sZ,sS]
 refine rg_t 12 (some 29) (.pointer (some ⟨g,0,none⟩)) rfl hSp (fun w' hs=>by first | rfl | go_simp) ?_
 simp only[Act.put,sA,sZ,sS]
 refine rg_t 13 (some 30) (.pointer (some ⟨g,7,none⟩)) rfl hSp (fun w' hs=>by first | rfl | go_simp) ?_
 simp only[Act.put,sA,sZ,sS]
 have c7d:=hSp.cell hlt2 c7
 have f7d:(World.drew w2).frozen? ⟨g,7,none⟩=false:=f7
 refine rg_done (by kernel_rfl) ?_
 refine rg_go 1 #[true,true,true,true,true,true,true,true,true,true,true,true,true,true,false] (by kernel_rfl) (by kernel_rfl) fun m=> ?_
 refine rg_write 14 none ((World.drew w2).setCell ⟨g,7,none⟩ (.slice (some ⟨ob,0,none⟩) N oc)) rfl rfl (by kernel_rfl) (by rfl) (exec_store rfl (store_slice _ s1Ptrs c7d f7d _ _ _)) trivial ?_
 simp only[Act.put,sA,sZ,sS]
 refine rg_done (by kernel_rfl) ?_
 obtain⟨w3,hw3⟩:∃X,(World.drew w2).setCell ⟨g,7,none⟩ (.slice (some ⟨ob,0,none⟩) N oc)=X:=⟨_,rfl⟩
 rw[hw3]
 have hX3:Exc g w2 w3:=by rw[←hw3];exact(Exc.of g ((Ext.refl w2).drew)).set (p:=⟨g,7,none⟩) rfl _
 have hb3:w3.heap[g]? =some (.cells #[.slice none 0 0,.int .i64 rn.kind,.string (bs rn.name),.string (bs rn.text),ra,rk,.slice none 0 0,.slice (some ⟨ob,0,none⟩) N oc,.string (bs []),.int .i64 (nn:Nat),.bool rt] 73 (0,0)):=by rw[←hw3];exact blk_setc (w:=World.drew w2) (k:=7) (u:= .slice (some ⟨ob,0,none⟩) N oc) (by have h:=HB2.out.blk;rw[HB.out.2.1,HB.out.2.2.1]at h;exact h)
 have hr3:w3.ownsRow (g+1) 126 1 (.slice (some ⟨ob,0,none⟩) N oc) R.length (R.reverse.map fun l=> .pointer (some ⟨l.b,0,none⟩)):=by
  have h1:=xrows_exc HB2.out.row hX3 (Nat.lt_succ_self _)
  rw[HB.out.2.1,HB.out.2.2.1,List.reverse_cons,List.map_append,List.map_singleton]at h1
  rw[hN]
  exact own_less h1
 obtain⟨h3,hva,hvk⟩:=pop_leaf HB2.out hX3 hb3 hr3 (by rw[HB.out.2.1];rfl)
 have hlb:=(HB2.out.lv l' (List.mem_cons_self ..))
 have hb4:=(hX3.2 l'.b (by have:=hlb.gb;omega) (blk_lt hlb.blk)).trans hlb.blk
 have y0:=blk_cell hb4 (k:=0) rfl;have y1:=blk_cell hb4 (k:=1) rfl;have y2:=blk_cell hb4 (k:=2) rfl;have y3:=blk_cell hb4 (k:=3) rfl;have y4:=blk_cell hb4 (k:=4) rfl
 have HL:=Lh HB.out.2.2.2
 have hnl:=hlb.nl
 have H3:=Lh (And.intro h3 (And.intro hva hvk))
 clear hw3 hX3 hb3 hr3 h3 hva hvk hlb hb4 HB HB2 c7 f7 hNI hNo hN0 hN1
 go_wp2_with fail
 refine(HPUT.out w3 _ l' HL.out hnl H3.out.1 H3.out.2.1 H3.out.2.2).mono ?_
 rintro e w4 ⟨rfl,h4⟩
 go_wp2_with fail
 exact bodyPost_end (results_none rfl _ _ _) rfl ⟨rfl,h4⟩
theorem flN_kind (n:Node) (tx:Bytes):(flN n tx).kind=n.kind:=by unfold flN;split<;> rfl
theorem bend_root (h:BT B0 g W0 W [l] ov rn ra rk tx nn rt) (htx:tx.length≤65536) (hkl:l.n.kids.length≤1048576) (hk1:l.n.kind=1):
  Calls Tryz.prog 66 #[.pointer (some ⟨g,0,none⟩)] W fun e w'=>e= .returned (.tuple #[])∧∃ov' ra' rk',BT B0 g W0 w' [] ov' (flN l.n tx) ra' rk' [] nn true:=
 bend_core _ h htx hkl (Nat.zero_le _) fun w3 ov3 l' h1 h2 h3 h4 h5=>(put_root h3 l'.n (by rw[h1,flN_kind];exact hk1) l'.va l'.vk h4 h5).mono fun e w' ⟨he,hb⟩=>⟨he,ov3,_,_,by rw[←h1];exact hb⟩
theorem bend_up {m:Lv} (h:BT B0 g W0 W (l::m::R) ov rn ra rk tx nn rt) (htx:tx.length≤65536) (hkl:l.n.kids.length≤1048576) (hkm:m.n.kids.length≤1048576) (hRl:R.length≤999):
  Calls Tryz.prog 66 #[.pointer (some ⟨g,0,none⟩)] W fun e w'=>e= .returned (.tuple #[])∧∃ov' vk',BT B0 g W0 w' ({m with n:=addKid m.n (flN l.n tx),vk:=vk'}::R) ov' rn ra rk [] nn rt:=
 bend_core _ h htx hkl (by rw[List.length_cons];omega) fun w3 ov3 l' h1 h2 h3 h4 h5=>(put_top h3 l'.n l'.va l'.vk h4 h5 h2.1 h2.2 hkm (by omega)).mono fun e w' ⟨he,⟨vk',hb⟩,_⟩=>⟨he,ov3,vk',by rw[←h1];exact hb⟩
end
theorem infoPtr:(Tryz.prog.info? 126).map (fun i=>(i.zero,i.size,i.bytes))=some (some (.pointer none),1,8):=by kernel_rfl
theorem exec_sadd0 {ev:Operand→Value} {oi:Oper} {x y:Operand} {u:TypeId} {s:Bytes} (ho:oi.op= .binOp .add 9 x y u) (hx:ev x= .string (bs [])) (hy:ev y= .string (bs s)) (h:s.length≤65536) (W:World):(execOp ev oi).run Tryz.prog W= .ok (.value (.string (bs s))) W:=by
 have hg:¬9223372036854775807< (bs []).size+(bs s).size:=by rw[bs_size,bs_size];simp;omega
 have e:bs []++bs s=bs s:=by rw[bs_append];rfl
 simp only[execOp,ho,hx,hy]
 simp[go_sem,hg,e]
theorem store_str {W:World} {b o:Nat} {u:Value} (hc:W.cell? ⟨b,o,none⟩=some u) (hf:W.frozen? ⟨b,o,none⟩=false) (s:ByteArray):
  (Instr.storeAt 9 (.pointer (some ⟨b,o,none⟩)) (.string s)).run Tryz.prog W= .ok () (W.setCell ⟨b,o,none⟩ (.string s)):=by
 go_simp
def flP:List Node→Bytes→List Node
 | [],_=> []
 | n::Q,tx=>flN n tx::Q
theorem flP_len (P:List Node) (tx:Bytes):(flP P tx).length=P.length:=by cases P<;> rfl
section
variable {B0 g:Nat} {W0 W W':World} {L R:List Lv} {l:Lv} {ov:Value} {rn:Node} {ra rk:Value} {tx tx':Bytes} {nn nn':Nat} {rt rt':Bool}
theorem BT.lo (h:BT B0 g W0 W L ov rn ra rk tx nn rt) {b:Nat} (hb:b< W0.heap.size) (hb2:B0≤b):¬Mut B0 g ov L b:=fun hm=>by
 have:=h.hg
 rcases hm with e | e | ⟨y,hy,e⟩
 ·
  omega
 ·
  have:=(h.row.lt b e.symm).1;omega
 ·
  have h1:=h.lv y hy
  have:=h1.gb
  rcases e with e | e
  ·
   omega
  ·
   have:=h1.lt b e.symm;omega
theorem flush_all (h:BT B0 g W0 W L ov rn ra rk tx nn rt) (h0:L= []→tx= []) (htx:tx.length≤65536) (hkl:∀l∈L,l.n.kids.length≤1048576) (hRl:L.length≤1000):
  Calls Tryz.prog 107 #[.pointer (some ⟨g,0,none⟩)] W fun e w'=>e= .returned (.tuple #[])∧(∃L',L'.map Lv.n=flP (L.map Lv.n) tx∧BT B0 g W0 w' L' ov rn ra rk [] nn rt)∧Chg (Mut B0 g ov L) W w':=by
 cases L with
 | nil=>
  obtain rfl:=h0 rfl
  exact(flush0 h).mono fun e w' ⟨he,hw⟩=>⟨he,⟨[],rfl,by rw[hw];exact h⟩,by rw[hw];exact(Ext.refl _).chg⟩
 | cons l R=>
  exact(flush_any h htx (hkl l (List.mem_cons_self ..)) (by rw[List.length_cons]at hRl;omega)).mono fun e w' ⟨he,⟨l',h1,h2⟩,h3⟩=>⟨he,⟨l'::R,by simp[flP,h1],h2⟩,h3⟩
theorem start_any (h:BT B0 g W0 W L ov rn ra rk tx nn rt) (t:TokX) (va:Value) (hva:Rep W (fun b=>B0≤b∧b< W0.heap.size) va (attrsD t.attrs)) (hL:L.length< 32) (hn:nn+(1+t.attrs.length)≤4096) (h0:L= []→tx= []∧rt=false) (htx:tx.length≤65536) (hkl:∀l∈L,l.n.kids.length≤1048576) (hnm:t.name.length≤65536):
  Calls Tryz.prog 65 #[.pointer (some ⟨g,0,none⟩),.agg #[.int .i64 t.kind,.int .i64 (t.at':Nat),.string (bs t.name),.string (bs t.text),va]] W fun e w'=>e= .returned (.int .i64 0)∧∃L' ov',L'.map Lv.n= .mk 1 t.name [] t.attrs []::flP (L.map Lv.n) tx∧BT B0 g W0 w' L' ov' rn ra rk [] (nn+(1+t.attrs.length)) (decide (L= []) || rt):=by
 obtain⟨i0,hi,hz0,hz1,hz2⟩:=info_parts infoPtr
 obtain⟨xa,xac,rfl,_,_⟩:=hva.count z_attr (by omega)
 obtain⟨oa,oc,hov⟩:=h.len
 obtain⟨w1,hw1⟩:∃X,W.alloc (.cells #[.int .i64 t.kind,.int .i64 (t.at':Nat),.string (bs t.name),.string (bs t.text),.slice xa t.attrs.length xac] 75)=X:=⟨_,rfl⟩
 obtain⟨t3,ht3⟩:∃t,W.heap.size=t:=⟨_,rfl⟩
 have hE1:Ext W w1:=by rw[←hw1];exact(Ext.refl W).alloc _
 have hb1:w1.heap[t3]? =some (.cells #[.int .i64 t.kind,.int .i64 (t.at':Nat),.string (bs t.name),.string (bs t.text),.slice xa t.attrs.length xac] 75 (0,0)):=by rw[←hw1,←ht3];exact Array.getElem?_push_size ..
 have h1:=h.ext' hE1
 have c7:=blk_cell h1.blk (k:=7) rfl
 have c10:=blk_cell h1.blk (k:=10) rfl
 have y4:=blk_cell hb1 (k:=4) rfl
 rw[hov]at c7
 have HC:=Lh (count_any h1 (1+t.attrs.length) hn)
 rw[show((1+t.attrs.length:Nat):Int)=1+(t.attrs.length:Int) by omega]at HC
 obtain⟨n,hn0⟩:∃n,L.length=n:=⟨_,rfl⟩
 rw[hn0]at c7 hov hL
 have hI32:¬(32:Int)≤(n:Int):=by omega
 have hal:(t.attrs.length:Int)≤4096:=by omega
 have H1:=Lh (And.intro hb1 (hva.ext hE1))
 have HK:=Lh (And.intro h0 hkl)
 have HM3:Hid (¬Mut B0 g ov L t3):=Lh (fun hm=>by
  have h5:=blk_lt h.blk
  have h7:=h.hb0
  rcases hm with e | e | ⟨y,hy,e⟩
  ·
   omega
  ·
   have:=(h.row.lt t3 e.symm).2;omega
  ·
   have h6:=h.lvlt hy
   rcases e with e | e
   ·
    omega
   ·
    have:=h6.2 t3 e.symm;omega)
 have hgt:g< t3:=by have:=blk_lt h.blk;omega
 have HN0:=Lh hn0
 have H0:=Lh h0
 have hEmp:((n:Int)==0)=decide (L= []):=by
  rw[←HN0.out]
  cases L with
  | nil=>rfl
  | cons a b=>rw[List.length_cons,beq_eq_false_iff_ne.2 (by omega)];rfl
 obtain⟨bL,hbL⟩:∃b,decide (L= [])=b:=⟨_,rfl⟩
 rw[hbL]at hEmp⊢
 have HBL:=Lh hbL
 clear hbL
 have hrt:bL=true→rt=false:=fun e=>(H0.out (of_decide_eq_true (HBL.out.trans e))).2
 have hN1:(((n:Int)+1)==1)=bL:=by rw[←hEmp];cases hz:((n:Int)==0)with
  | true=>rw[beq_iff_eq]at hz⊢;omega
  | false=>rw[beq_eq_false_iff_ne]at hz⊢;omega
 clear h hva h1 hb1 hE1 h0 hkl hn0
 go_enter Tryz.func65,Tryz.ntmps65
 go_wp2_with fail
 try rw[ht3]
 refine HC.out.mono ?_
 rintro e w2 ⟨rfl,h2,hX2⟩
 clear HC c7 c10 y4
 have c7:=blk_cell h2.blk (k:=7) rfl
 have c10:=blk_cell h2.blk (k:=10) rfl
 rw[hov]at c7
 have hb2:=(hX2.2 t3 (by omega) (blk_lt H1.out.1)).trans H1.out.1
 have hva2:=H1.out.2.exc (fun b hb=>by have:=h2.hg;omega) hX2
 have HF:=Lh (flush_all h2 (fun e=>(HK.out.1 e).1) htx HK.out.2 (by have:=HN0.out;omega))
 have ht2:t3< w2.heap.size:=blk_lt hb2
 -- the token's block is none of the builder's
 have ht3m:¬Mut B0 g ov L t3:=HM3.out
 have HA:=Lh (And.intro h2 (And.intro hb2 hva2))
 clear h2 hX2 hb2 hva2 H1
 clear hw1
 cases bL
 all_goals
  try (obtain rfl:rt=false:=hrt rfl)
  clear hrt
  go_wp2_with fail
  refine HF.out.mono ?_
  rintro e w3 ⟨rfl,⟨L1,hL1,h3⟩,hC3⟩
  clear HF c7 c10
  have hb3:=(hC3.2 t3 ht3m (blk_lt HA.out.2.1)).trans HA.out.2.1
  have hlen1:L1.length=n:=by have:=congrArg List.length hL1;rw[List.length_map,flP_len,List.length_map]at this;rw[this];exact HN0.out
  have hva3:Rep w3 (fun b=>¬Mut B0 g ov L1 b) (.slice xa t.attrs.length xac) (attrsD t.attrs):=(HA.out.2.2.kept fun b hb hlb=>hC3.2 b (HA.out.1.lo hb.2 hb.1) hlb).ok fun b hb=>h3.lo hb.2 hb.1
  have H2:=Lh h3
  have H3:=Lh hb3
  have H4:=Lh (And.intro hva3 hL1)
  clear h3 hC3 hb3 hva3 hL1 HA
  have hrow:=H2.out.row
  obtain⟨us,hus⟩:∃u,(L1.reverse.map fun l=>Value.pointer (some ⟨l.b,0,none⟩))=u:=⟨_,rfl⟩
  rw[hlen1,hov,hus]at hrow
  obtain⟨w4,hw4⟩:∃X,w3.alloc (.cells #[.int .i64 1,.string (bs t.name),.string ⟨#[]⟩,.slice xa t.attrs.length xac,.slice none 0 0] 26)=X:=⟨_,rfl⟩
  obtain⟨b,hb⟩:∃b,w3.heap.size=b:=⟨_,rfl⟩
  have hE4:Ext w3 w4:=by rw[←hw4];exact(Ext.refl w3).alloc _
  have hb4:w4.heap[b]? =some (.cells #[.int .i64 1,.string (bs t.name),.string ⟨#[]⟩,.slice xa t.attrs.length xac,.slice none 0 0] 26 (0,0)):=by rw[←hw4,←hb];exact Array.getElem?_push_size ..
  have y2:=blk_cell H3.out (k:=2) rfl
  have y4:=blk_cell H3.out (k:=4) rfl
  have hg4:=(Below.block hE4 g (blk_lt H2.out.blk)).trans H2.out.blk
  rw[hov]at hg4
  have c7:=blk_cell hg4 (k:=7) rfl
  have hE5:Ext w4 (w4.alloc (.cells #[.pointer (some ⟨b,0,none⟩)] 126)):=(Ext.refl w4).alloc _
  have hrow5:=rows_ext (rows_ext hrow hE4) hE5
  have hgw:g+1≤w4.heap.size:=blk_lt hg4
  have HQ:=Lh (And.intro hE4 (And.intro hb4 (And.intro hg4 hrow5)))
  have hgo:some g≠Value.ownBlock (.slice oa n oc):=fun e=>by have:=(hrow.lt g e.symm).1;omega
  have hbo:some b≠Value.ownBlock (.slice oa n oc):=fun e=>by have:=(hrow.lt b e.symm).2;omega
  clear hE4 hb4 hg4 hrow
  go_wp2_with (at_builtin;refine wpList_append_own_at _ rfl (.tmp 46) (.tmp 48) _ rfl (g+1) 126 i0 (.pointer none) 1 8 Tryz.underlying71 hi hz0 hz1 hz2 rfl (by decide) (.slice oa n oc) n us rfl HQ.out.2.2.2 ⟨w4.heap.size,0,none⟩ 1 1 [.pointer (some ⟨b,0,none⟩)] rfl rfl (by intro j u hj;match j,hj with | 0,hj=>simp at hj;subst hj;simp[go_sem]) (by intro u hu;simp at hu;rcases hu with rfl;rfl) (by unfold maxLen;omega) (by omega) (by simp;omega) ?_;intro v2 w5 hown5 hgrow5 _ hat5;obtain⟨va2,vc2,rfl⟩:=own_form hown5;have hb5:=(hgrow5.block g (by simp;omega) hgo).trans ((Below.block hE5 g (by omega)).trans HQ.out.2.2.1);have d7:=blk_cell hb5 (k:=7) rfl;have f7:=blk_free (k:=7) hb5;have hb6:=blk_setc (k:=7) (u:= .slice va2 (n+1) vc2) hb5;obtain⟨w6,hw6⟩:∃X,w5.setCell ⟨g,7,none⟩ (.slice va2 (n+1) vc2)=X:=⟨_,rfl⟩;rw[hw6]at hb6;have e7:=blk_cell hb6 (k:=7) rfl;have e10:=blk_cell hb6 (k:=10) rfl;have g10:=blk_free (k:=10) hb6;have HN6:=Lh (And.intro hb5 (And.intro hb6 (And.intro hown5 (And.intro hgrow5 hat5)))))
  have hs3:w3.heap.size≤w4.heap.size:=HQ.out.1.size
  have hC5:Chg (fun c=>c=g∨some c=ov.ownBlock) w3 w5:=(HQ.out.1.chg.trans hE5.chg).trans ((grown_chg hgrow5).imp fun c e=> .inr (by rw[hov];exact e))
  have hC6:Chg (fun c=>c=g∨some c=ov.ownBlock) w3 w6:=by rw[←hw6];exact hC5.trans ((set_chg w5 ⟨g,7,none⟩ _).imp fun c e=> .inl e)
  have hgb:g≠b:=by have:=blk_lt H2.out.blk;omega
  have hbb5:=(hgrow5.block b (Nat.lt_of_lt_of_le (blk_lt HQ.out.2.1) hE5.size) hbo).trans ((Below.block hE5 b (blk_lt HQ.out.2.1)).trans HQ.out.2.1)
  have hbb6:w6.heap[b]? =some (.cells #[.int .i64 1,.string (bs t.name),.string ⟨#[]⟩,.slice xa t.attrs.length xac,.slice none 0 0] 26 (0,0)):=by rw[←hw6];exact(Below.heap_setCell _ _ _ _ (Ne.symm hgb)).trans hbb5
  have hr6:w6.ownsRow (g+1) 126 1 (.slice va2 (n+1) vc2) (n+1) (us++ [.pointer (some ⟨b,0,none⟩)]):=by rw[←hw6];exact rows_set hown5 (p:=⟨g,7,none⟩) (fun e=>by have:=(hown5.lt g e.symm).1;omega) _
  have ha6:(Value.slice va2 (n+1) vc2).ownBlock=ov.ownBlock∨∃k,(Value.slice va2 (n+1) vc2).ownBlock=some k∧w3.heap.size≤k:=by
   rcases hat5 with e | e
   ·
    exact .inl (by rw[hov];exact e)
   ·
    exact .inr ⟨_,e,by simp;omega⟩
  rw[←hus,←hlen1]at hr6
  rw[hlen1]at hr6
  have hbs:w3.heap.size≤b:=by omega
  have HZ:=Lh (And.intro hC6 (And.intro hbb6 (And.intro hb6 (And.intro hr6 ha6))))
  clear hC5 hC6 hbb5 hbb6 hr6 ha6 hb6 hb5 hown5 hgrow5 hat5
  go_ret
  refine⟨rfl,⟨b,.mk 1 t.name [] t.attrs [],.slice xa t.attrs.length xac,.slice none 0 0⟩::L1,.slice va2 (n+1) vc2,by simp[H4.out.2],?_⟩
  first
  | exact push_leaf H2.out (.mk 1 t.name [] t.attrs []) rfl (.slice xa t.attrs.length xac) b hbs HZ.out.1 HZ.out.2.1 HZ.out.2.2.1 (by rw[hlen1];exact HZ.out.2.2.2.1) HZ.out.2.2.2.2 H4.out.1 hnm (Nat.zero_le _)
  | exact push_leaf H2.out (.mk 1 t.name [] t.attrs []) rfl (.slice xa t.attrs.length xac) b hbs (HZ.out.1.trans ((set_chg w6 ⟨g,10,none⟩ _).imp fun c e=> .inl e)) ((Below.heap_setCell _ _ _ _ (Ne.symm hgb)).trans HZ.out.2.1) (blk_setc (k:=10) (u:= .bool true) HZ.out.2.2.1) (by rw[hlen1];exact rows_set HZ.out.2.2.2.1 (p:=⟨g,10,none⟩) (fun e=>by have:=(HZ.out.2.2.2.1.lt g e.symm).1;omega) _) HZ.out.2.2.2.2 H4.out.1 hnm (Nat.zero_le _)
theorem bchars_any (h:BT B0 g W0 W (l::R) ov rn ra rk [] nn rt) (t:TokX) (va:Value) (hva:Rep W (fun b=>B0≤b∧b< W0.heap.size) va (attrsD t.attrs)) (hn:nn+1≤4096) (ht:t.text≠ []) (htl:t.text.length≤65536):
  Calls Tryz.prog 68 #[.pointer (some ⟨g,0,none⟩),.agg #[.int .i64 t.kind,.int .i64 (t.at':Nat),.string (bs t.name),.string (bs t.text),va]] W fun e w'=>e= .returned (.int .i64 0)∧BT B0 g W0 w' (l::R) ov rn ra rk t.text (nn+1) rt:=by
 obtain⟨xa,xac,rfl,_,_⟩:=hva.count z_attr (by omega)
 obtain⟨oa,oc,hov⟩:=h.len
 obtain⟨w1,hw1⟩:∃X,W.alloc (.cells #[.int .i64 t.kind,.int .i64 (t.at':Nat),.string (bs t.name),.string (bs t.text),.slice xa t.attrs.length xac] 75)=X:=⟨_,rfl⟩
 obtain⟨t3,ht3⟩:∃t,W.heap.size=t:=⟨_,rfl⟩
 have hE1:Ext W w1:=by rw[←hw1];exact(Ext.refl W).alloc _
 have hb1:w1.heap[t3]? =some (.cells #[.int .i64 t.kind,.int .i64 (t.at':Nat),.string (bs t.name),.string (bs t.text),.slice xa t.attrs.length xac] 75 (0,0)):=by rw[←hw1,←ht3];exact Array.getElem?_push_size ..
 have h1:=h.ext' hE1
 have c7:=blk_cell h1.blk (k:=7) rfl
 have c8:=blk_cell h1.blk (k:=8) rfl
 have y3:=blk_cell hb1 (k:=3) rfl
 rw[hov]at c7
 obtain⟨n,hn0⟩:∃n,R.length=n:=⟨_,rfl⟩
 have hcl:(l::R).length=n+1:=by rw[List.length_cons,hn0]
 rw[hcl]at c7
 have hI:(((n:Int)+1)==0)=false:=by rw[beq_eq_false_iff_ne];omega
 have hte:(bs t.text).toList.isEmpty=false:=by rw[bs_toList];cases ht':t.text with
   | nil=>exact absurd ht' ht
   | cons a b=>rfl
 have hte2:((bs t.text).toList==([]:List UInt8))=false:=by rw[bs_toList,beq_eq_false_iff_ne];exact ht
 have htb:((bs []).toList==([]:List UInt8))=true:=by rw[bs_toList];rfl
 have htb2:(bs []).toList.isEmpty=true:=by rw[bs_toList];rfl
 have HC:=Lh (count_any h1 1 hn)
 have H1:=Lh hb1
 have hgt:g< t3:=by have:=blk_lt h.blk;omega
 clear h hva h1 hb1 hE1 hcl hn0 hov
 go_enter Tryz.func68,Tryz.ntmps68
 go_wp2_with fail
 try rw[ht3]
 refine HC.out.mono ?_
 rintro e w2 ⟨rfl,h2,hX2⟩
 have hb2:=(hX2.2 t3 (by omega) (blk_lt H1.out)).trans H1.out
 obtain⟨w3,hw3⟩:∃w,w=w2:=⟨_,rfl⟩
 subst hw3
 clear c7 c8 y3
 have c8:=blk_cell h2.blk (k:=8) rfl
 have f8:=blk_free (k:=8) h2.blk
 have y3:=blk_cell hb2 (k:=3) rfl
 have hlt2:=blk_lt h2.blk
 have hlt3:=blk_lt hb2
 have H2:=Lh h2
 clear h2 hX2 hb2 HC hw1
 go_wp2_with fail
 refine rg_cut (S:=Sx w3) 9 (by kernel_rfl) (by kernel_rfl) (by kernel_rfl) (by kernel_rfl) (Sx.begin _) ?_
 have hSp:Sx w3 (World.drew w3):=(Sx.begin _)
 refine rg_t 0 (some 35) (.pointer (some ⟨g,0,none⟩)) rfl hSp (fun w' hs=>by rfl) ?_
 simp only[Act.put,sA,sZ,sS]
 refine rg_t 1 (some 36) (.pointer (some ⟨g,0,none⟩)) rfl hSp (fun w' hs=>by first | rfl | go_simp) ?_
 simp only[Act.put,sA,sZ,sS]
 refine rg_t 2 (some 37) (.pointer (some ⟨g,8,none⟩)) rfl hSp (fun w' hs=>by first | rfl | go_simp) ?_
 simp only[Act.put,sA,sZ,sS]
 refine rg_t 3 (some 38) (.string (bs [])) rfl hSp (fun w' hs=>by(have h0:=hs.cell hlt2 c8;go_simp)) ?_
 simp only[Act.put,sA,sZ,sS]
 refine rg_t 4 (some 39) (.pointer (some ⟨t3,3,none⟩)) rfl hSp (fun w' hs=>by first | rfl | go_simp) ?_
 simp only[Act.put,sA,sZ,sS]
 refine rg_t 5 (some 40) (.string (bs t.text)) rfl hSp (fun w' hs=>by(have h0:=hs.cell hlt3 y3;go_simp)) ?_
 simp only[Act.put,sA,sZ,sS]
 refine rg_t 6 (some 41) (.string (bs t.text)) rfl hSp (fun w' hs=>by exact exec_sadd0 rfl rfl rfl (by omega) _) ?_
 simp only[Act.put,sA,sZ,sS]
 refine rg_t 7 (some 42) (.pointer (some ⟨g,0,none⟩)) rfl hSp (fun w' hs=>by first | rfl | go_simp) ?_
 simp only[Act.put,sA,sZ,sS]
 refine rg_t 8 (some 43) (.pointer (some ⟨g,8,none⟩)) rfl hSp (fun w' hs=>by first | rfl | go_simp) ?_
 simp only[Act.put,sA,sZ,sS]
 have c8d:=hSp.cell hlt2 c8
 have f8d:(World.drew w3).frozen? ⟨g,8,none⟩=false:=f8
 refine rg_done (by kernel_rfl) ?_
 refine rg_go 1 #[true,true,true,true,true,true,true,true,true,false] (by kernel_rfl) (by kernel_rfl) fun m=> ?_
 refine rg_write 9 none ((World.drew w3).setCell ⟨g,8,none⟩ (.string (bs t.text))) rfl rfl (by kernel_rfl) (by rfl) (exec_store rfl (store_str c8d f8d _)) trivial ?_
 simp only[Act.put,sA,sZ,sS]
 refine rg_done (by kernel_rfl) ?_
 obtain⟨w4,hw4⟩:∃X,(World.drew w3).setCell ⟨g,8,none⟩ (.string (bs t.text))=X:=⟨_,rfl⟩
 rw[hw4]
 have h4:=H2.out.gset (W':=w4) (tx':=t.text) (nn':=nn+1) (rt':=rt) (by rw[←hw4];exact(Exc.of g ((Ext.refl w3).drew)).set (p:=⟨g,8,none⟩) rfl _) (by rw[←hw4];exact blk_setc (w:=World.drew w3) (k:=8) (u:= .string (bs t.text)) H2.out.blk)
 have HZ:=Lh h4
 clear h4 hw4 c8 f8 y3 c8d f8d H2
 go_wp2_with fail
 go_ret
 exact⟨rfl,HZ.out⟩
end
end Go.Proofs.YtcfibjiikhnfhaaGreatDoor
