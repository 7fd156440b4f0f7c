/-
  law13.mixed. Helper lemmas;no statement of the seat is proved here.
-/
import Derived.Test.YtebhipeeogoagaaGreatDoorU17
import Derived.Deep.DeepCutAuto
namespace Go.Proofs.YtebhipeeogoagaaGreatDoor
open Go.RowKit
set_option maxHeartbeats 32000000
set_option maxRecDepth 100000
set_option linter.unusedVariables false
set_option linter.unusedSimpArgs false
def Sr (v:Value) (a w:World):Prop:=a.heap.size≤w.heap.size∧∀b,some b≠v.ownBlock→b< a.heap.size→w.heap[b]? =a.heap[b]?
theorem Sr.begin (v:Value) (w:World):Sr v w w.drew:=⟨((Ext.refl w).drew).size,fun b _ hb=>Below.block ((Ext.refl w).drew) b hb⟩
theorem Sr.ext {v:Value} {a w w':World} (h:Sr v a w) (k:Ext w w'):Sr v a w':=⟨Nat.le_trans h.1 k.size,fun b h1 h2=>(Below.block k b (Nat.lt_of_lt_of_le h2 h.1)).trans (h.2 b h1 h2)⟩
theorem Sr.cell {v:Value} {a w:World} (h:Sr v a w) {b o:Nat} {u:Value} (hb:b< a.heap.size∧some b≠v.ownBlock) (hc:a.cell? ⟨b,o,none⟩=some u):w.cell? ⟨b,o,none⟩=some u:=(World.cell?_of_block (h.2 b hb.2 hb.1)).trans hc
theorem Sr.free {v:Value} {a w:World} (h:Sr v a w) {b o:Nat} {u:Bool} (hb:b< a.heap.size∧some b≠v.ownBlock) (hc:a.frozen? ⟨b,o,none⟩=u):w.frozen? ⟨b,o,none⟩=u:=(World.frozen?_of_block (h.2 b hb.2 hb.1)).trans hc
theorem Sr.grown {v:Value} {a w w':World} (h:Sr v a w) (hg:w.grownBy w' v.ownBlock):Sr v a w':=⟨Nat.le_trans h.1 hg.size,fun b h1 h2=>(hg.block b (Nat.lt_of_lt_of_le h2 h.1) h1).trans (h.2 b h1 h2)⟩
theorem own_form {w:World} {base z n:Nat} {e:TypeId} {v:Value} {us:List Value} (h:w.ownsRow base e z v n us):∃o c,v= .slice o n c:=by
  rcases h.2 with⟨rfl,rfl⟩ | ⟨g,cap,cur,rfl,_⟩
  · exact⟨_,_,rfl⟩
  · exact⟨_,_,rfl⟩
theorem qlast_normal {P:Program} {ops:Array Oper} {last:Nat} {Q:Exit→Act→World→Prop} {a:Act} {w:World} (h:wpOp P ops Q last (fun a w=>Q .normal a w) a w):QLast P ops last Q .normal a w:=h
section
variable {P:Program} {ops:Array Oper} {Q:Exit→Act→World→Prop} {S:World→Prop} {fuel:Nat} {listed:Array Bool} {a:Act} {w:World}
theorem put_same (a:Act) (d:Nat) (v:Value) (h:d< a.tmps.size):(a.put (some d) v).eval (.tmp d)=v:=by
  simp[Act.put,Act.eval,h]
theorem put_ne (a:Act) (d j:Nat) (v:Value) (h:d≠j):(a.put (some d) v).eval (.tmp j)=a.eval (.tmp j):=Act.eval_put (fun e he=>by cases he;intro k;cases k;exact h rfl)
theorem put_size (a:Act) (d:Nat) (v:Value):(a.put (some d) v).tmps.size=a.tmps.size:=by simp[Act.put]
theorem put_swap (a:Act) (d e:Nat) (v u:Value) (h:d≠e):(a.put (some d) v).put (some e) u=(a.put (some e) u).put (some d) v:=Act.put_comm a v u fun k hk=>by cases hk;intro j;cases j;exact h rfl
theorem wanted_none {o:Oper} (h:o.guard=none) (y:Nat→Option Bool):Region.wanted o y=true:=by unfold Region.wanted;rw[h]
theorem rg_row (A C B D:Nat) (dA dC dB dD tB tX:Tmp) {oA oB oC oD:Oper} (SL EL:TypeId) (i0:TypeInfo) (zero:Value) (z bytes:Nat)
    (hA:ops[A]? =some oA) (hC:ops[C]? =some oC) (hB:ops[B]? =some oB) (hD:ops[D]? =some oD)
    (ht:P.underlying SL=some (.slice EL)) (hi:P.info? EL=some i0) (hz:i0.zero=some zero) (hsize:i0.size=z) (hby:i0.bytes=bytes) (hzs:zero.cells.size=z) (hsz:0< z)
    (X sv:Value) (xs news:List Value) (m:Nat) (hX:a.eval (.tmp tX)=X) (hV:a.eval (.tmp tB)=sv) (hsrc:Src w z sv m news) (h1:∀u∈news,u.oneCell'=true) (hx1:∀u∈xs,u.oneCell'=true) (hxl:xs.length=z)
    (hb:m≤16777216) (hb2:bytes≤4096) (hS:∀w',Ext w w'→S w')
    (hrA:∀(ev:Operand→Value) (W:World),(execOp ev oA).run P W= .ok (.value (.slice (some ⟨W.heap.size,0,none⟩) 0 0)) (W.alloc (.cells #[] EL)))
    (hrC:∀(ev:Operand→Value) (W:World),(∀v,ev (.const v)=v)→ev (.tmp tX)=X→(execOp ev oC).run P W= .ok (.value (.slice (some ⟨W.heap.size,0,none⟩) 1 1)) (W.alloc (.cells xs.toArray EL)))
    (h:∀(g1 g2:Nat) (v2 v3:Value) (w':World),Ext w w'→w'.ownsRow w.heap.size EL z v3 (m+1) (news++xs)→S w'→
      wpAnyH P .any ops Q S fuel ((((listed.setIfInBounds A true).setIfInBounds C true).setIfInBounds B true).setIfInBounds D true)
        ((((a.put (some dA) (.slice (some ⟨g1,0,none⟩) 0 0)).put (some dC) (.slice (some ⟨g2,0,none⟩) 1 1)).put (some dB) v2).put (some dD) v3) w')
    (hr0:Region.ready .any ops listed= [A,C]:=by kernel_rfl) (hr1:Region.ready .any ops (listed.setIfInBounds A true)= [B,C]:=by kernel_rfl) (hr2:Region.ready .any ops ((listed.setIfInBounds A true).setIfInBounds B true)= [C]:=by kernel_rfl)
    (hr3:Region.ready .any ops (listed.setIfInBounds C true)= [A]:=by kernel_rfl) (hr4:Region.ready .any ops ((listed.setIfInBounds A true).setIfInBounds C true)= [B]:=by kernel_rfl) (hr5:Region.ready .any ops (((listed.setIfInBounds A true).setIfInBounds C true).setIfInBounds B true)= [D]:=by kernel_rfl)
    (edA:oA.dst=some dA:=by rfl) (edC:oC.dst=some dC:=by rfl) (edB:oB.dst=some dB:=by rfl) (edD:oD.dst=some dD:=by rfl) (gA:oA.guard=none:=by rfl) (gC:oC.guard=none:=by rfl) (gB:oB.guard=none:=by rfl) (gD:oD.guard=none:=by rfl)
    (opB:oB.op= .call {callee:= .builtin .append,args:= #[.tmp dA,.tmp tB],argTypes:= #[SL,SL]}:=by rfl) (opD:oD.op= .call {callee:= .builtin .append,args:= #[.tmp dB,.tmp dC],argTypes:= #[SL,SL]}:=by rfl)
    (hne:(decide (A≠C) && decide (B≠C) && decide (dA≠tB) && decide (dC≠tB) && decide (dA≠tX) && decide (dB≠tX) && decide (dA≠dC) && decide (dA≠dB) && decide (dB≠dC) && decide (dA< a.tmps.size) && decide (dB< a.tmps.size) && decide (dC< a.tmps.size))=true:=by rfl):
    wpAnyH P .any ops Q S (fuel+1+1+1+1) listed a w:=by
  simp only[Bool.and_eq_true,decide_eq_true_eq]at hne
  obtain⟨⟨⟨⟨⟨⟨⟨⟨⟨⟨⟨nAC,nBC⟩,n1⟩,n2⟩,n3⟩,n4⟩,n5⟩,n6⟩,n7⟩,sA⟩,sB⟩,sC⟩:=hne
  have hbm:(m+1)*bytes≤140737488355328:=Nat.le_trans (Nat.mul_le_mul (Nat.succ_le_succ hb) hb2) (by decide)
  have hbm0:(0+m)*bytes≤140737488355328:=Nat.le_trans (Nat.mul_le_mul_right _ (by omega)) hbm
  -- D, behind all three
  have fin:∀(g1 g2:Nat) (v2:Value) (w4:World),Ext w w4→w4.ownsRow w.heap.size EL z v2 m news→w4.heap[g2]? =some (.cells xs.toArray EL (0,0))→
      wpAnyH P .any ops Q S (fuel+1) (((listed.setIfInBounds A true).setIfInBounds C true).setIfInBounds B true) (((a.put (some dA) (.slice (some ⟨g1,0,none⟩) 0 0)).put (some dC) (.slice (some ⟨g2,0,none⟩) 1 1)).put (some dB) v2) w4:=by
    intro g1 g2 v2 w4 hE4 hown hg2
    refine rg_one D hr5 ?_
    refine tk_src D (some dD) hD edD (wanted_none gD _) (.tmp dB) (.tmp dC) SL opD w.heap.size EL i0 zero z bytes ht hi hz hsize hby hzs hsz v2 m news ?_ hown (.slice (some ⟨g2,0,none⟩) 1 1) 1 xs ?_ (by have:=Src.block (z:=z) (m:=1) (c:=1) hg2 (by simp[hxl]);simpa using this) hx1 (by unfold maxLen;omega) hbm hE4.size ?_
    · rw[put_same _ _ _ (by rw[put_size,put_size];exact sB)]
    · rw[put_ne _ _ _ _ n7,put_same _ _ _ (by rw[put_size];exact sC)]
    · intro v3 w5 hr hg _
      have hE5:Ext w w5:=sx_grown hE4 hown hg
      exact⟨hS _ hE5,h g1 g2 v2 v3 w5 hE5 hr (hS _ hE5)⟩
  -- B, behind A; whether C has come up or not
  have stepB:∀(g1:Nat) (a':Act) (w3:World) (K:Act→World→Prop),Ext w w3→w3.heap[g1]? =some (.cells #[] EL (0,0))→w.heap.size≤g1→a'.eval (.tmp dA)= .slice (some ⟨g1,0,none⟩) 0 0→a'.eval (.tmp tB)=sv→
      (∀(v2:Value) (w4:World),w4.ownsRow w.heap.size EL z v2 m news→w3.grownBy w4 (some g1)→Ext w w4→K (a'.put (some dB) v2) w4)→wpOp P ops Q B K a' w3:=by
    intro g1 a' w3 K hE3 hg1 hge e1 e2 hK
    have hown0:w3.ownsRow w.heap.size EL z (.slice (some ⟨g1,0,none⟩) 0 0) 0 []:=own_empty' hge hg1
    refine tk_src B (some dB) hB edB (wanted_none gB _) (.tmp dA) (.tmp tB) SL opB w.heap.size EL i0 zero z bytes ht hi hz hsize hby hzs hsz _ 0 [] e1 hown0 sv m news e2 (hsrc.ext hE3) h1 (by unfold maxLen;omega) hbm0 hE3.size ?_
    intro v2 w4 hr hg _
    rw[Nat.zero_add,List.nil_append]at hr
    exact hK v2 w4 hr hg (sx_grown hE3 hown0 hg)
  refine rg_two A C hr0 ?_ ?_
  · refine tk_new A (some dA) (.cells #[] EL) (fun n=> .slice (some ⟨n,0,none⟩) 0 0) hA edA (wanted_none gA _) (hrA _ _) ?_
    intro g1 w1 eg1 hx hsz1 hg1
    refine⟨hS _ hx,?_⟩
    refine rg_two B C hr1 ?_ ?_
    · refine stepB g1 _ w1 _ hx hg1 (by omega) (by rw[put_same _ _ _ sA]) (by rw[put_ne _ _ _ _ n1];exact hV) ?_
      intro v2 w2 hr hg hE2
      refine⟨hS _ hE2,rg_one C hr2 ?_⟩
      refine tk_new C (some dC) (.cells xs.toArray EL) (fun n=> .slice (some ⟨n,0,none⟩) 1 1) hC edC (wanted_none gC _) (hrC _ _ (fun _=>rfl) (by rw[put_ne _ _ _ _ n4,put_ne _ _ _ _ n3];exact hX)) ?_
      intro g2 w3 eg2 hx3 _ hg2
      refine⟨hS _ (hE2.trans hx3),?_⟩
      rw[put_swap _ dB dC _ _ n7,Array.setIfInBounds_comm _ _ nBC]
      exact fin g1 g2 v2 w3 (hE2.trans hx3) (rows_ext hr hx3) hg2
    · refine tk_new C (some dC) (.cells xs.toArray EL) (fun n=> .slice (some ⟨n,0,none⟩) 1 1) hC edC (wanted_none gC _) (hrC _ _ (fun _=>rfl) (by rw[put_ne _ _ _ _ n3];exact hX)) ?_
      intro g2 w2 eg2 hx2 _ hg2
      refine⟨hS _ (hx.trans hx2),rg_one B hr4 ?_⟩
      refine stepB g1 _ w2 _ (hx.trans hx2) ((Below.block hx2 g1 (blk_lt hg1)).trans hg1) (by omega) (by rw[put_ne _ _ _ _ n5.symm,put_same _ _ _ sA]) (by rw[put_ne _ _ _ _ n2,put_ne _ _ _ _ n1];exact hV) ?_
      intro v2 w3 hr hg hE3
      exact⟨hS _ hE3,fin g1 g2 v2 w3 hE3 hr ((hg.block g2 (blk_lt hg2) (by intro e;cases e;omega)).trans hg2)⟩
  · refine tk_new C (some dC) (.cells xs.toArray EL) (fun n=> .slice (some ⟨n,0,none⟩) 1 1) hC edC (wanted_none gC _) (hrC _ _ (fun _=>rfl) hX) ?_
    intro g2 w1 eg2 hx _ hg2
    refine⟨hS _ hx,rg_one A hr3 ?_⟩
    refine tk_new A (some dA) (.cells #[] EL) (fun n=> .slice (some ⟨n,0,none⟩) 0 0) hA edA (wanted_none gA _) (hrA _ _) ?_
    intro g1 w2 eg1 hx2 _ hg1
    have hE2:=hx.trans hx2
    rw[put_swap _ dC dA _ _ n5.symm,Array.setIfInBounds_comm _ _ nAC.symm]
    refine⟨hS _ hE2,rg_one B hr4 ?_⟩
    have hg2':=(Below.block hx2 g2 (blk_lt hg2)).trans hg2
    have hlt:=blk_lt hg2
    have hws:=hx.size
    refine stepB g1 _ w2 _ hE2 hg1 (by omega) (by rw[put_ne _ _ _ _ n5.symm,put_same _ _ _ sA]) (by rw[put_ne _ _ _ _ n2,put_ne _ _ _ _ n1];exact hV) ?_
    intro v2 w3 hr hg hE3
    exact⟨hS _ hE3,fin g1 g2 v2 w3 hE3 hr ((hg.block g2 (blk_lt hg2') (by intro e;cases e;omega)).trans hg2')⟩
end
theorem szStrM:∀W,(sizeOf (Tryz.prog.elem 36)).run Tryz.prog W= .ok 1 W:=fun W=>by rw[show Tryz.prog.elem 36=9 by kernel_rfl];go_simp
theorem unStrM:Tryz.prog.underlying 36=some (.slice (Tryz.prog.elem 36)):=by kernel_rfl
theorem mixK_len (l:List Rule) (path:List Bytes):∀ks:List Node,(mixK l ks path).length=2*ks.length
  | []=>by rw[mixK];rfl
  | n::r=>by rw[mixK,List.length_append,mixK_len l path r];simp;omega
theorem reps_cm (w:World) (p:Nat→Prop):Reps w p [.int .i64 3,.string ⟨#[]⟩,.string ⟨#[99]⟩,.slice none 0 0,.slice none 0 0] (nodeC cmN):=by
  rw[nodeC_eq]
  exact Reps.cons (Rep.int _ _ _ _) (Reps.cons (Rep.string w p ⟨#[]⟩ (by decide)) (Reps.cons (Rep.string w p ⟨#[99]⟩ (by decide)) (Reps.cons (Rep.nil 2) (Reps.cons (Rep.nil 5) (Reps.nil _ _)))))
theorem own_set {w:World} {p:Nat→Prop} {base z n:Nat} {e:TypeId} {v:Value} {es:List DV} (h:Own w p base e z v n es) {g o:Nat} (hp:∀b,p b→b≠g) (ha:g< base) (u:Value):Own (w.setCell ⟨g,o,none⟩ u) p base e z v n es:=by
  obtain⟨us,h1,h2⟩:=h
  exact⟨us,rows_set h1 (p:=⟨g,o,none⟩) (fun e=>by have:=(h1.lt g e.symm).1;omega) u,(h2.kept fun b hb _=>Below.heap_setCell _ _ _ _ (by simpa using hp b hb.1)).ok fun b hb=>⟨hb.1,hb.2.1,by simpa using hb.2.2⟩⟩
def upV:Value→Nat
  | .int _ z=>(z+1).toNat
  | _=>0
def RetM (W:World) (m:Node) (e:Ending) (w':World):Prop:=∃xa xk,e= .returned (.agg #[.int .i64 m.kind,.string (bs m.name),.string (bs m.text),xa,xk])∧Rep w' (fun b=>W.heap.size≤b) xa (attrsD m.attrs)∧Rep w' (fun b=>W.heap.size≤b) xk (nodesD m.kids)
theorem res_one {fn:Func} {t:Tmp} {T:TypeId} (h:fn.results= #[.cell t T]) (tmps:Array Value) (P:Program) (w:World) (ad:Addr) {v:Value} (ha:tmps.getD t undef= .pointer (some ad)) (hl:(loadVar T ad).run P w= .ok v w):
    (results fn tmps).run P w= .ok v w:=by
  have ha':tmps[t]?.getD undef= .pointer (some ad):=by simpa using ha
  simp[results,h,ha',asAddr,hl]
theorem mixK_drop (l:List Rule) (path:List Bytes) (ks:List Node) (i:Nat) (h:i< ks.length):mixK l (ks.drop i) path=mixK l (ks.drop (i+1)) path++ [cmN,mixN l ks[i] (path++ [ks[i].name])]:=by
  rw[drop_one ks i h,mixK]
theorem mixF_take (l:List Rule):∀(ks:List Node) (i:Nat) (h:i< ks.length),mixF l (ks.take (i+1))=mixF l (ks.take i)++ [mixN l ks[i] []]
  | [],i,h=>absurd h (Nat.not_lt_zero _)
  | n::r,0,h=>by simp[mixF]
  | n::r,i+1,h=>by rw[List.take_succ_cons,List.take_succ_cons,mixF,mixF,mixF_take l r i (by simpa using h)];rfl
theorem mixF_len (l:List Rule):∀ks:List Node,(mixF l ks).length=ks.length
  | []=>by rw[mixF]
  | n::r=>by rw[mixF,List.length_cons,List.length_cons,mixF_len l r]
def MixP (l:List Rule) (N:Nat):Prop:=∀(n:Node) (path:List Bytes) (W:World) (vl vp va vk:Value) (p q s:Nat→Prop),nsz n< N→cntN n≤1048576→path.length+nsz n≤4194304→Rep W q vl (rulesD l)→Rep W s vp (strsD path)→Rep W p va (attrsD n.attrs)→Rep W p vk (nodesD n.kids)→
  Calls Tryz.prog 8 #[vl,.agg #[.int .i64 n.kind,.string (bs n.name),.string (bs n.text),va,vk],vp] W fun e w'=>RetM W (mixN l n path) e w'∧Ext W w'
def LB (n:Node) (w5 wr:World) (g7:Nat) (da dv:Value) (K:List Node):Prop:=Exc g7 w5 wr∧B5 wr g7 (.mk n.kind n.name n.text [] []) da dv∧Own wr (fun b=>w5.heap.size≤b) w5.heap.size 26 5 dv K.length (K.flatMap nodeC)
def LA (n:Node) (w2 wr:World) (g7:Nat) (i:Nat) (dv:Value):Prop:=Exc g7 w2 wr∧B5 wr g7 (.mk n.kind n.name n.text [] []) dv (.slice none 0 0)∧Own wr (fun _=>False) w2.heap.size 62 2 dv (n.attrs.length - i) ((n.attrs.drop i).reverse.flatMap attrC)
theorem mixed_step (l:List Rule) (N:Nat) (ih:MixP l N):MixP l (N+1):=by
  intro n path W vl vp va vk p q s hN hcnt hpn hvl hvp hva hvk
  obtain⟨la0,lc,rfl,hlc1,hlc2⟩:=hvl.count z_rule (by omega)
  obtain⟨pa,pc,rfl,hpc1,hpc2⟩:=hvp.count z_str (by omega)
  obtain⟨ba,ca,rfl,_,_⟩:=hva.count z_attr (by omega)
  obtain⟨bk,ck,rfl,_,_⟩:=hvk.count z_node (by omega)
  obtain⟨R,hR⟩:∃R,mixN l n path=R:=⟨_,rfl⟩
  rw[hR]
  rw[mixN_eq]at hR
  obtain⟨i0,hi,hz0,hz1,hz2⟩:=info_parts infoAttr
  obtain⟨j0,ji,jz0,jz1,jz2⟩:=info_parts infoNode
  obtain⟨s0,si,sz0,sz1,sz2⟩:=info_parts infoStr
  obtain⟨ks,hks⟩:∃k,n.kids=k:=⟨_,rfl⟩
  have hcl:=cntL_len n.kids
  have hck:=cnt_kids n
  have hal:=cntA_len n.attrs
  have hnz:=nsz_kids n
  rw[hks]at hvk hR hcl hck hnz⊢
  obtain⟨w1,hw1⟩:∃X,(W.alloc (.cells #[.int .i64 n.kind,.string (bs n.name),.string (bs n.text),.slice ba n.attrs.length ca,.slice bk ks.length ck] 26)).alloc (.cells #[.int .i64 0,.string ⟨#[]⟩,.string ⟨#[]⟩,.slice none 0 0,.slice none 0 0] 26)=X:=⟨_,rfl⟩
  obtain⟨gk,hgk⟩:∃x,W.heap.size=x:=⟨_,rfl⟩
  obtain⟨gr,hgr⟩:∃x,gk+1=x:=⟨_,rfl⟩
  obtain⟨g7,hg7⟩:∃x,gr+1=x:=⟨_,rfl⟩
  have hE1:Ext W w1:=by rw[←hw1];exact((Ext.refl W).alloc _).alloc _
  have hb1:B5 w1 gk n (.slice ba n.attrs.length ca) (.slice bk ks.length ck):=by rw[←hw1,←hgk];exact(b5_box W n _ _).ext ((Ext.refl _).alloc _)
  have hr1:B5 w1 gr zeroN (.slice none 0 0) (.slice none 0 0):=by
    rw[←hw1,←hgr,←hgk]
    have:=b5_zero (W.alloc (.cells #[.int .i64 n.kind,.string (bs n.name),.string (bs n.text),.slice ba n.attrs.length ca,.slice bk ks.length ck] 26))
    simpa using this
  have hsz1:w1.heap.size=g7:=by rw[←hw1];simp;omega
  obtain⟨w2,hw2⟩:∃X,w1.alloc (.cells #[.int .i64 n.kind,.string (bs n.name),.string (bs n.text),.slice none 0 0,.slice none 0 0] 26)=X:=⟨_,rfl⟩
  have hE2:Ext w1 w2:=by rw[←hw2];exact(Ext.refl w1).alloc _
  have hs2:w2.heap.size=g7+1:=by rw[←hw2,←hsz1];simp
  have hb7:B5 w2 g7 (.mk n.kind n.name n.text [] []) (.slice none 0 0) (.slice none 0 0):=by rw[←hw2,←hsz1];exact b5_box w1 (.mk n.kind n.name n.text [] []) _ _
  have hb2:=hb1.ext hE2
  have hr2:=hr1.ext hE2
  have n0':=hb1.c0;have n1':=hb1.c1;have n2':=hb1.c2
  have k3:=hb2.c3
  obtain⟨z0,hz⟩:∃z:Int,(n.attrs.length:Int) - 1=z:=⟨_,rfl⟩
  have hzw:IntKind.i64.wrap z0=z0:=by rw[IntKind.wrap_i64];omega
  have HZ:=Lh hz
  have HH:=Lh (show Rep W q (.slice la0 l.length lc) (rulesD l)∧Rep W s (.slice pa path.length pc) (strsD path)∧Rep W p (.slice ba n.attrs.length ca) (attrsD n.attrs)∧Rep W p (.slice bk ks.length ck) (nodesD ks)∧nsz n< N+1∧cntN n≤1048576∧n.kids=ks∧nszL ks< nsz n∧path.length+nsz n≤4194304 from⟨hvl,hvp,hva,hvk,hN,hcnt,hks,by omega,hpn⟩)
  have HG:=Lh (show gk=W.heap.size∧gr=gk+1∧g7=gr+1∧w2.heap.size=g7+1∧Ext W w2∧B5 w2 gk n (.slice ba n.attrs.length ca) (.slice bk ks.length ck)∧B5 w2 gr zeroN (.slice none 0 0) (.slice none 0 0)∧B5 w2 g7 (.mk n.kind n.name n.text [] []) (.slice none 0 0) (.slice none 0 0) from⟨hgk.symm,hgr.symm,hg7.symm,hs2,hE1.trans hE2,hb2,hr2,hb7⟩)
  have HW:=Lh (And.intro hw1 (And.intro hgk (And.intro hgr (And.intro hw2 (And.intro hsz1 hg7)))))
  have HR:=Lh hR
  have hkl:ks.length≤1048576:=by omega
  have hal2:n.attrs.length≤1048576:=by omega
  clear hR hvl hvp hva hvk hN hcnt hpn hks hcl hck hal hnz hw1 hgk hgr hg7 hE1 hb1 hr1 hsz1 hw2 hE2 hs2 hb7 hb2 hr2
  go_enter Tryz.func8,Tryz.ntmps8
  go_upto_region 1 with fail
  rw[HW.out.1,HW.out.2.1,HW.out.2.2.1]
  go_upto_region 2 with fail
  rw[HW.out.2.2.2.1,HW.out.2.2.2.2.1]
  clear n0' n1' n2'
  go_wp2_with fail
  go_loopw [8] (fun t wr=>∃(i:Nat) (z:Int) (dv:Value),t= .int .i64 z∧z=(i:Int) - 1∧i≤n.attrs.length∧Hid (LA n w2 wr g7 i dv)) (fun t _=>upV t)
  case atStart=>exact⟨n.attrs.length,_,_,rfl,HZ.out.symm,Nat.le_refl _,Lh ⟨Exc.refl _ _,HG.out.2.2.2.2.2.2.2,by rw[List.drop_length,Nat.sub_self];exact Own.nil _ _ _ _ _⟩⟩
  case round=>
    clear k3 hz hzw
    obtain⟨i,z,dv,rfl,hzi,hil,HI⟩:=hrel
    cases i with
    | succ j=>
      have hzj:z=(j:Int):=by omega
      subst hzj
      have hj0:(0:Int)≤(j:Int):=by omega
      have hjl:j< n.attrs.length:=by omega
      have hXr:=HI.out.1
      have hgne:gk≠g7:=by have:=HG.out;omega
      obtain⟨ga,oa,eb,lga,pga,a0',a1'⟩:=attr_at (HH.out.2.2.1.lt.ext HG.out.2.2.2.2.1) j hjl
      subst eb
      have hnle:=attr_len HH.out.2.2.1 j hjl
      have hst:(n.attrs.drop j).reverse=(n.attrs.drop (j+1)).reverse++ [n.attrs[j]]:=by rw[drop_one n.attrs j hjl,List.reverse_cons]
      obtain⟨y,hy⟩:∃y,n.attrs[j]=y:=⟨_,rfl⟩
      rw[hy]at a0' a1' hnle hst
      have hga:ga≠g7:=by have:=HG.out;have:=pga.2;omega
      have hlw:ga< w2.heap.size:=lga
      obtain⟨wz,hwz⟩:∃X,X=wr:=⟨_,rfl⟩
      subst hwz
      obtain⟨us,husD,hreps⟩:=HI.out.2.2.rows
      obtain⟨n0,hn0⟩:∃m,n.attrs.length - (j+1)=m:=⟨_,rfl⟩
      rw[hn0]at husD
      have hn0l:n0≤1048576:=by omega
      have hXz:Exc g7 w2 wz:=hXr
      have hdl:∀b,dv.ownBlock=some b→w2.heap.size≤b:=fun b hb=>(husD.lt b hb).1
      have hG:=HG.out
      have hb7:=HI.out.2.1
      have hbk:=hG.2.2.2.2.2.1.exc hgne hXz
      have d7:=hb7.c3
      have f7:=hb7.f3
      have l7:g7< wz.heap.size∧some g7≠dv.ownBlock:=⟨hb7.lt,fun e=>by have:=hdl g7 e.symm;omega⟩
      have lk:gk< wz.heap.size∧some gk≠dv.ownBlock:=⟨hbk.lt,fun e=>by have:=hdl gk e.symm;omega⟩
      have la:ga< wz.heap.size∧some ga≠dv.ownBlock:=⟨Nat.lt_of_lt_of_le hlw hXz.1,fun e=>by have:=hdl ga e.symm;omega⟩
      have k3:=hbk.c3
      have a0:=(World.cell?_of_block (a:=⟨ga,oa+j*2,none⟩) (hXz.2 ga hga hlw)).trans a0'
      have a1:=(World.cell?_of_block (a:=⟨ga,oa+j*2+1,none⟩) (hXz.2 ga hga hlw)).trans a1'
      have HST:=Lh (And.intro hst (And.intro hn0 (And.intro hreps (And.intro hb7 (And.intro hnle hzi)))))
      clear hXr hy hst a0' a1' hG hbk hb7 hreps hn0 hnle hlw pga HI hdl hzi
      go_upto_region 5 with fail
      refine region_merge (fun ac ac' w'=>∃(gb:Nat) (v3:Value) (xb:World) (xc:World),ac'=((((((((((ac.put (some 26) (.pointer (some ⟨g7,3,none⟩))).put (some 27) (dv)).put (some 28) (.pointer (some ⟨gk,3,none⟩))).put (some 29) (.slice (some ⟨ga,oa,none⟩) n.attrs.length ca)).put (some 30) (.int .i64 j)).put (some 31) (.pointer (some ⟨ga,oa+j*2,none⟩))).put (some 32) (.agg #[.string (bs y.n),.string (bs y.v)])).put (some 33) (.slice (some ⟨gb,0,none⟩) 1 1)).put (some 34) (v3)).put (some 35) (.pointer (some ⟨g7,3,none⟩)))∧w'=xc.setCell ⟨g7,3,none⟩ v3∧Ext wz xb∧xb.heap[gb]? =some (.cells #[.string (bs y.n),.string (bs y.v)] 62 (0,0))∧World.ownsRow xc w2.heap.size 62 2 v3 (n0+1) (us++ [.string (bs y.n),.string (bs y.v)])∧World.grownBy xb xc dv.ownBlock∧(v3.ownBlock=dv.ownBlock∨v3.ownBlock=some xb.heap.size)) ?_ ?_
      · refine rg_aside (S := Sr dv wz) 10 ⟨none, .store 23 (.tmp 35) (.tmp 34), 0, "law.go:78", #[⟨9, .data⟩, ⟨8, .data⟩, ⟨8, .chain⟩, ⟨0, .phase⟩, ⟨1, .phase⟩, ⟨2, .phase⟩, ⟨3, .phase⟩, ⟨4, .phase⟩, ⟨5, .phase⟩, ⟨6, .phase⟩, ⟨7, .phase⟩, ⟨8, .phase⟩], none⟩ (by kernel_rfl) (by decide) rfl rfl (by kernel_rfl) (by kernel_rfl) (Sr.begin _ _) ?_
        have hSy:Sr dv wz (World.drew wz):=(Sr.begin _ _)
        simp only[List.setIfInBounds_toArray,List.set_cons_zero,List.set_cons_succ]
        refine rg_t 0 (some 26) (.pointer (some ⟨g7,3,none⟩)) rfl hSy (fun w' hs=>by first | rfl | go_simp) ?_
        simp only[Act.put,sA,sZ,sS]
        refine rg_t 1 (some 27) (dv) rfl hSy (fun w' hs=>by(have h0:=hs.cell l7 d7;go_simp)) ?_
        simp only[Act.put,sA,sZ,sS]
        refine rg_t 2 (some 28) (.pointer (some ⟨gk,3,none⟩)) rfl hSy (fun w' hs=>by first | rfl | go_simp) ?_
        simp only[Act.put,sA,sZ,sS]
        refine rg_t 3 (some 29) (.slice (some ⟨ga,oa,none⟩) n.attrs.length ca) rfl hSy (fun w' hs=>by(have h0:=hs.cell lk k3;go_simp)) ?_
        simp only[Act.put,sA,sZ,sS]
        refine rg_t 4 (some 30) (.int .i64 j) rfl hSy (fun w' hs=>by rfl) ?_
        simp only[Act.put,sA,sZ,sS]
        refine rg_t 5 (some 31) (.pointer (some ⟨ga,oa+j*2,none⟩)) rfl hSy (fun w' hs=>by first | rfl | go_simp) ?_
        simp only[Act.put,sA,sZ,sS]
        refine rg_t 6 (some 32) (.agg #[.string (bs y.n),.string (bs y.v)]) rfl hSy (fun w' hs=>by(have h0:=hs.cell la a0;have h1:=hs.cell la a1;go_simp)) ?_
        simp only[Act.put,sA,sZ,sS]
        refine rg_one 7 (by kernel_rfl) ?_
        refine tk_new 7 (some 33) (.cells #[.string (bs y.n),.string (bs y.v)] 62) (fun n=> .slice (some ⟨n,0,none⟩) 1 1) rfl rfl (by rfl) (by first | rfl | go_simp) ?_
        intro gb xb egb hxb hzxb hC
        have hSb:Sr dv wz xb:=hSy.ext hxb
        refine⟨hSb,?_⟩
        simp only[Act.put,sA,sZ,sS]
        have hEb:Ext wz xb:=(show Ext wz _ from((Ext.refl wz).drew)).trans hxb
        have hbse:w2.heap.size≤xb.heap.size:=Nat.le_trans hXz.1 hEb.size
        refine rg_one 8 (by kernel_rfl) ?_
        refine tk_src 8 (some 34) rfl rfl (by rfl) (.tmp 27) (.tmp 33) 23 rfl w2.heap.size 62 i0 (.agg #[.string ⟨#[]⟩,.string ⟨#[]⟩]) 2 32 Tryz.underlying23 hi hz0 hz1 hz2 rfl (by decide) dv n0 us rfl (rows_ext husD hEb) (.slice (some ⟨gb,0,none⟩) 1 1) 1 [.string (bs y.n),.string (bs y.v)] rfl (Src.block hC rfl) (by intro u hu;simp at hu;rcases hu with rfl | rfl<;> rfl) (by unfold maxLen;omega) (by omega) hbse ?_
        intro v3 xc hr3 hg3 ha3
        have hSc:Sr dv wz xc:=hSb.grown hg3
        refine⟨hSc,?_⟩
        simp only[Act.put,sA,sZ,sS]
        refine rg_t 9 (some 35) (.pointer (some ⟨g7,3,none⟩)) rfl hSc (fun w' hs=>by first | rfl | go_simp) ?_
        simp only[Act.put,sA,sZ,sS]
        refine rg_t 10 none (.bool true) rfl hSc (fun w' hs=>by rfl) ?_
        simp only[Act.put,sA,sZ,sS]
        refine rg_done (by kernel_rfl) ?_
        obtain⟨v3a,v3c,rfl⟩:=own_form hr3
        have a4c:=hSc.cell l7 d7
        have a4f:=hSc.free l7 f7
        refine qlast_normal ?_
        refine tk_write 10 none (xc.setCell ⟨g7,3,none⟩ (.slice v3a (n0+1) v3c)) (by rfl) rfl (by rfl) (exec_store rfl (store_slice _ s1Attr a4c a4f _ _ _)) ?_
        exact⟨gb,(.slice v3a (n0+1) v3c),xb,xc,(by first | rfl | simp only[Act.put,sA,sZ,sS]),rfl,hEb,hC,hr3,hg3,ha3⟩
      rintro _ w9 ⟨gb,v3,xb,xc,rfl,hw9,hEb,hC,hr3,hg3,ha3⟩
      simp only[Act.put,sA,sZ,sS]
      obtain⟨v3a,v3c,rfl⟩:=own_form hr3
      obtain⟨hst,hn0,hreps,hb7,hnle,hzi⟩:=HST.out
      have hX9:Exc g7 w2 w9:=by rw[hw9];exact((hXz.ext hEb).grown hg3 fun k hk=>(husD.lt k hk).1).set (p:=⟨g7,3,none⟩) rfl _
      have hgl:g7< w2.heap.size:=HG.out.2.2.2.2.2.2.2.lt
      have hb9:B5 w9 g7 (.mk n.kind n.name n.text [] []) (.slice v3a (n0+1) v3c) (.slice none 0 0):=by
        rw[hw9];exact((hb7.ext hEb).block hg3.size (hg3.block g7 (hb7.ext hEb).lt fun e=>by have:=(husD.lt g7 e.symm).1;omega)).set3 _ rfl rfl rfl
      have hO9:Own w9 (fun _=>False) w2.heap.size 62 2 (.slice v3a (n0+1) v3c) (n.attrs.length - j) ((n.attrs.drop j).reverse.flatMap attrC):=by
        rw[hst,List.flatMap_append,List.flatMap_singleton,show n.attrs.length - j=n0+1 by omega,hw9]
        exact own_set (Own.push ((hreps.ext hEb).ok fun b hb=>⟨hb.1,hb.2.1,Nat.lt_of_lt_of_le hb.2.2 hEb.size⟩) (Reps.cons (Rep.string _ _ _ (by rw[bs_size];exact hnle.1)) (Reps.cons (Rep.string _ _ _ (by rw[bs_size];exact hnle.2)) (Reps.nil _ _))) hr3 hg3 ha3) (fun b hb=>hb.elim) hgl _
      have HR9:=Lh (show LA n w2 w9 g7 j (.slice v3a (n0+1) v3c) from⟨hX9,hb9,hO9⟩)
      obtain⟨z',hz'⟩:∃z:Int,(j:Int) - 1=z:=⟨_,rfl⟩
      have hzw':IntKind.i64.wrap z'=z':=by rw[IntKind.wrap_i64];omega
      have HZ':=Lh hz'
      clear hst hn0 hreps hb7 hnle hzi hX9 hb9 hO9 hr3 hg3 ha3 hw9 hEb hC husD d7 f7 l7 lk la k3 a0 a1
      go_wp2_with fail
      go_roundw
      case rel=>exact⟨j,_,_,rfl,HZ'.out.symm,by omega,HR9⟩
      case measure=>have:=HZ'.out;simp only[upV];omega
    | zero=>
      have hz1':¬(0:Int)≤z:=by omega
      have hE2:=HG.out.2.2.2.2.1
      have hXW:Exc g7 w2 wr:=HI.out.1
      have hpg:∀b,b< W.heap.size→b≠g7:=fun b hb=>by have:=HG.out;omega
      have hvl:=(HH.out.1.lt.ext hE2).exc (fun b hb=>hpg b hb.2) hXW
      have hvp:=(HH.out.2.1.lt.ext hE2).exc (fun b hb=>hpg b hb.2) hXW
      have HFI:=Lh fun X (hE:Ext wr X)=>find_q _ _ l path _ _ X (hvl.ext hE) (hvp.ext hE)
      have HFR:=Lh fun X (hE:Ext wr X)=>front_q _ _ l path _ _ X (hvl.ext hE) (hvp.ext hE)
      have HLA:=Lh (show LA n w2 wr g7 0 dv from HI.out)
      obtain⟨ff,hff⟩:∃z,findS path l 0=z:=⟨_,rfl⟩
      obtain⟨fr,hfr⟩:∃b,frontS l path=b:=⟨_,rfl⟩
      rw[hff]at HFI
      rw[hfr]at HFR
      have HRR:Hid (R= .mk n.kind n.name n.text n.attrs.reverse (if ff< 0∨fr=true then mixF l ks else mixK l ks path)):=Lh (by rw[←HR.out,hff,hfr])
      clear hE2 hXW hpg hvl hvp HI hff hfr hzi hil
      by_cases hway:ff< 0∨fr=true
      · have HRF:Hid (R= .mk n.kind n.name n.text n.attrs.reverse (mixF l ks)):=Lh (by rw[HRR.out,if_pos hway])
        clear HRR
        have hway2:ff< 0∨(¬ff< 0∧fr=true):=by by_cases h:ff< 0;exact .inl h;exact .inr ⟨h,hway.resolve_left h⟩
        clear hway
        rcases hway2 with hf0 | ⟨hf0,rfl⟩
        all_goals (
          first
          | (have hA:ff< 0:=hf0
             clear hA
             go_wp2_with fail
             refine(HFI.out _ (Ext.refl _)).mono ?_
             rintro e w5 ⟨rfl,hD5⟩
             have HE5:Hid (Ext wr w5):=Lh hD5.ext
             clear hD5
             go_wp2_with fail
             clear HFI HFR hf0)
          | (have hA:¬ff< 0:=hf0
             clear hA
             go_wp2_with fail
             refine(HFI.out _ (Ext.refl _)).mono ?_
             rintro e w4 ⟨rfl,hD4⟩
             go_wp2_with fail
             refine(HFR.out _ hD4.ext).mono ?_
             rintro e w5 ⟨rfl,hD5⟩
             have HE5:Hid (Ext wr w5):=Lh (hD4.ext.trans hD5.ext)
             clear hD4 hD5
             go_wp2_with fail
             clear HFI HFR hf0)
          obtain⟨da,hda⟩:∃x,x=dv:=⟨_,rfl⟩
          subst hda
          obtain⟨wA,hwA⟩:∃x,x=wr:=⟨_,rfl⟩
          subst hwA
          have HA5:Hid (B5 w5 g7 (.mk n.kind n.name n.text [] []) da (.slice none 0 0)∧Exc g7 w2 w5∧Rep w5 (fun b=>w2.heap.size≤b∧b≠g7) da (attrsD n.attrs.reverse)):=Lh (by
            obtain⟨h1,h2,h3⟩:=HLA.out
            refine⟨h2.ext HE5.out,h1.ext HE5.out,?_⟩
            have h4:=(h3.rep.ext HE5.out)
            rw[List.drop_zero]at h4
            exact h4.ok fun b hb=>by rcases hb with hb | hb;exact hb.elim;have:=HG.out;exact⟨hb,by have hb':w2.heap.size≤b:=hb;omega⟩)
          go_loopw [9] (fun t wx=>∃(i:Nat) (dv:Value),t= .int .i64 i∧i≤ks.length∧Hid (LB n w5 wx g7 da dv (mixF l (ks.take i)))) (fun t _=>downV ks.length t)
          case atStart=>exact⟨0,_,rfl,Nat.zero_le _,Lh ⟨Exc.refl _ _,HA5.out.1,by rw[List.take_zero,mixF];exact Own.nil _ _ _ _ _⟩⟩
          case round=>
            obtain⟨i,dv,rfl,hi,HI⟩:=hrel
            have hi0:(0:Int)≤(i:Int):=by omega
            obtain⟨wz,hwz⟩:∃x,x=wr:=⟨_,rfl⟩
            subst hwz
            have hXz:Exc g7 w5 wz:=HI.out.1
            have hGk:=HG.out
            have hpg:∀b,b< W.heap.size→b≠g7:=fun b hb=>by omega
            have hkz:=((HH.out.2.2.2.1.lt.ext hGk.2.2.2.2.1).exc (fun b hb=>hpg b hb.2) HA5.out.2.1).exc (fun b hb=>hpg b hb.2) hXz
            have hlz:=((HH.out.1.lt.ext hGk.2.2.2.2.1).exc (fun b hb=>hpg b hb.2) HA5.out.2.1).exc (fun b hb=>hpg b hb.2) hXz
            have hbk:=(hGk.2.2.2.2.2.1.exc (show gk≠g7 by omega) HA5.out.2.1).exc (show gk≠g7 by omega) hXz
            have hb7:=HI.out.2.1
            have k4:=hbk.c4
            have hsz5:w2.heap.size≤w5.heap.size:=HA5.out.2.1.1
            by_cases hlt:i< ks.length
            · have hlI:(i:Int)< (ks.length:Int):=by omega
              obtain⟨ga,oa,za,zk,eb,lga,pga,a0,a1,a2,a3,a4,hya,hyk⟩:=node_at hkz i hlt
              subst eb
              have hnl:=node_len HH.out.2.2.2.1 i hlt
              have hmt:=mixF_take l ks i hlt
              have hmem:=List.getElem_mem hlt
              have hcy:=kid_le ks i hlt
              obtain⟨y,hy⟩:∃y,ks[i]=y:=⟨_,rfl⟩
              rw[hy]at a0 a1 a2 hya hyk hnl hmt hmem hcy
              obtain⟨yab,yac,rfl,_,_⟩:=hya.count z_attr (by omega)
              obtain⟨ykb,ykc,rfl,_,_⟩:=hyk.count z_node (by omega)
              obtain⟨m,hm⟩:∃m,mixN l y []=m:=⟨_,rfl⟩
              rw[hm]at hmt
              have hmn:m.name=y.name∧m.text=y.text:=by rw[←hm,mixN_eq];exact⟨rfl,rfl⟩
              have hnz:nsz y< nsz n:=nsz_mem n y (by rw[HH.out.2.2.2.2.2.2.1];exact hmem)
              have hckn:=cnt_kids n
              rw[HH.out.2.2.2.2.2.2.1]at hckn
              have hcn:=HH.out.2.2.2.2.2.1
              have HMX:Hid (∀X,Ext wz X→Calls Tryz.prog 8 #[.slice la0 l.length lc,.agg #[.int .i64 y.kind,.string (bs y.name),.string (bs y.text),.slice yab y.attrs.length yac,.slice ykb y.kids.length ykc],.slice none 0 0] X fun e w'=>∃(xa xk:Option Addr) (xc1 yc:Nat),e= .returned (.agg #[.int .i64 m.kind,.string (bs m.name),.string (bs m.text),.slice xa m.attrs.length xc1,.slice xk m.kids.length yc])∧Rep w' (fun b=>wz.heap.size≤b) (.slice xa m.attrs.length xc1) (attrsD m.attrs)∧Rep w' (fun b=>wz.heap.size≤b) (.slice xk m.kids.length yc) (nodesD m.kids)∧Ext X w'):=Lh fun X hE=>
                (ih y [] X _ _ _ _ _ _ (fun _=>True) (by have:=HH.out.2.2.2.2.1;omega) (by omega) (by have:=HH.out.2.2.2.2.2.2.2.2;simp;omega) (hlz.ext hE) (.nil 1) (hya.ext hE) (hyk.ext hE)).mono fun e w' ⟨⟨ua,uk,he,h1,h2⟩,hB⟩=>by
                  rw[hm]at he h1 h2
                  obtain⟨xa,xc1,rfl,_,_⟩:=h1.count z_attr (by omega)
                  obtain⟨xk,yc,rfl,_,_⟩:=h2.count z_node (by omega)
                  exact⟨xa,xk,xc1,yc,he,h1.ok fun b hb=>Nat.le_trans hE.size hb,h2.ok fun b hb=>Nat.le_trans hE.size hb,hB⟩
              obtain⟨us,husD,hreps⟩:=HI.out.2.2.rows
              obtain⟨n0,hn0⟩:∃k,(mixF l (ks.take i)).length=k:=⟨_,rfl⟩
              have hn0l:n0≤1048576:=by rw[←hn0,mixF_len,List.length_take];omega
              rw[hn0]at husD
              have hdl:∀b,dv.ownBlock=some b→w5.heap.size≤b:=fun b hb=>(husD.lt b hb).1
              have d7:=hb7.c4
              have f7:=hb7.f4
              have hl5:g7< w5.heap.size∧gk< w5.heap.size∧W.heap.size≤w5.heap.size:=by omega
              have l7:g7< wz.heap.size∧some g7≠dv.ownBlock:=⟨hb7.lt,fun e=>by have:=hdl g7 e.symm;omega⟩
              have lk:gk< wz.heap.size∧some gk≠dv.ownBlock:=⟨hbk.lt,fun e=>by have:=hdl gk e.symm;omega⟩
              have la:ga< wz.heap.size∧some ga≠dv.ownBlock:=⟨lga,fun e=>by have:=hdl ga e.symm;have:=pga.2;omega⟩
              have HST:=Lh (And.intro hmt (And.intro hn0 (And.intro hreps (And.intro hb7 (And.intro hnl hmn)))))
              clear hGk hpg hkz hlz hbk hb7 hy hmt hmem hcy hm hmn hnz hckn hcn hya hyk hreps hn0 hdl HI pga
              go_upto_region 10 with fail
              refine region_merge (fun ac ac' w'=>∃(gb:Nat) (v3:Value) (xb:World) (xc:World) (xa:Option Addr) (xk:Option Addr) (xc1:Nat) (yc:Nat),ac'=((((((((((((ac.put (some 52) (.pointer (some ⟨g7,4,none⟩))).put (some 53) (dv)).put (some 54) (.slice la0 l.length lc)).put (some 55) (.pointer (some ⟨gk,4,none⟩))).put (some 56) (.slice (some ⟨ga,oa,none⟩) ks.length ck)).put (some 57) (.int .i64 i)).put (some 58) (.pointer (some ⟨ga,oa+i*5,none⟩))).put (some 59) (.agg #[.int .i64 y.kind,.string (bs y.name),.string (bs y.text),.slice yab y.attrs.length yac,.slice ykb y.kids.length ykc])).put (some 60) (.agg #[.int .i64 m.kind,.string (bs m.name),.string (bs m.text),.slice xa m.attrs.length xc1,.slice xk m.kids.length yc])).put (some 61) (.slice (some ⟨gb,0,none⟩) 1 1)).put (some 62) (v3)).put (some 63) (.pointer (some ⟨g7,4,none⟩)))∧w'=xc.setCell ⟨g7,4,none⟩ v3∧Ext wz xb∧xb.heap[gb]? =some (.cells #[.int .i64 m.kind,.string (bs m.name),.string (bs m.text),.slice xa m.attrs.length xc1,.slice xk m.kids.length yc] 26 (0,0))∧World.ownsRow xc w5.heap.size 26 5 v3 (n0+1) (us++ [.int .i64 m.kind,.string (bs m.name),.string (bs m.text),.slice xa m.attrs.length xc1,.slice xk m.kids.length yc])∧World.grownBy xb xc dv.ownBlock∧(v3.ownBlock=dv.ownBlock∨v3.ownBlock=some xb.heap.size)∧Rep xb (fun b=>wz.heap.size≤b) (.slice xa m.attrs.length xc1) (attrsD m.attrs)∧Rep xb (fun b=>wz.heap.size≤b) (.slice xk m.kids.length yc) (nodesD m.kids)) ?_ ?_
              · refine rg_aside (S := Sr dv wz) 12 ⟨none, .store 24 (.tmp 63) (.tmp 62), 0, "law.go:82", #[⟨11, .data⟩, ⟨10, .data⟩, ⟨10, .chain⟩, ⟨0, .phase⟩, ⟨1, .phase⟩, ⟨2, .phase⟩, ⟨3, .phase⟩, ⟨4, .phase⟩, ⟨5, .phase⟩, ⟨6, .phase⟩, ⟨7, .phase⟩, ⟨8, .phase⟩, ⟨9, .phase⟩, ⟨10, .phase⟩], none⟩ (by kernel_rfl) (by decide) rfl rfl (by kernel_rfl) (by kernel_rfl) (Sr.begin _ _) ?_
                have hSk:Sr dv wz (World.drew wz):=(Sr.begin _ _)
                simp only[List.setIfInBounds_toArray,List.set_cons_zero,List.set_cons_succ]
                refine rg_t 0 (some 52) (.pointer (some ⟨g7,4,none⟩)) rfl hSk (fun w' hs=>by first | rfl | go_simp) ?_
                simp only[Act.put,sA,sZ,sS]
                refine rg_t 1 (some 53) (dv) rfl hSk (fun w' hs=>by(have h0:=hs.cell l7 d7;go_simp)) ?_
                simp only[Act.put,sA,sZ,sS]
                refine rg_t 2 (some 54) (.slice la0 l.length lc) rfl hSk (fun w' hs=>by rfl) ?_
                simp only[Act.put,sA,sZ,sS]
                refine rg_t 3 (some 55) (.pointer (some ⟨gk,4,none⟩)) rfl hSk (fun w' hs=>by first | rfl | go_simp) ?_
                simp only[Act.put,sA,sZ,sS]
                refine rg_t 4 (some 56) (.slice (some ⟨ga,oa,none⟩) ks.length ck) rfl hSk (fun w' hs=>by(have h0:=hs.cell lk k4;go_simp)) ?_
                simp only[Act.put,sA,sZ,sS]
                refine rg_t 5 (some 57) (.int .i64 i) rfl hSk (fun w' hs=>by rfl) ?_
                simp only[Act.put,sA,sZ,sS]
                refine rg_t 6 (some 58) (.pointer (some ⟨ga,oa+i*5,none⟩)) rfl hSk (fun w' hs=>by first | rfl | go_simp) ?_
                simp only[Act.put,sA,sZ,sS]
                refine rg_t 7 (some 59) (.agg #[.int .i64 y.kind,.string (bs y.name),.string (bs y.text),.slice yab y.attrs.length yac,.slice ykb y.kids.length ykc]) rfl hSk (fun w' hs=>by(have h0:=hs.cell la a0;have h1:=hs.cell la a1;have h2:=hs.cell la a2;have h3:=hs.cell la a3;have h4:=hs.cell la a4;go_simp)) ?_
                simp only[Act.put,sA,sZ,sS]
                refine rg_one 8 (by kernel_rfl) ?_
                refine tk_call 8 (some 60) 8 #[.slice la0 l.length lc,.agg #[.int .i64 y.kind,.string (bs y.name),.string (bs y.text),.slice yab y.attrs.length yac,.slice ykb y.kids.length ykc],.slice none 0 0] rfl rfl (by rfl) (fun w'=>by first | rfl | go_simp) (R:=fun v w'=>∃(xa xk:Option Addr) (xc1 yc:Nat),v= .agg #[.int .i64 m.kind,.string (bs m.name),.string (bs m.text),.slice xa m.attrs.length xc1,.slice xk m.kids.length yc]∧Rep w' (fun b=>wz.heap.size≤b) (.slice xa m.attrs.length xc1) (attrsD m.attrs)∧Rep w' (fun b=>wz.heap.size≤b) (.slice xk m.kids.length yc) (nodesD m.kids)∧Ext (World.drew wz) w') ?_ ?_
                · exact(HMX.out _ ((Ext.refl wz).drew)).mono fun e w' ⟨xa,xk,xc1,yc,he,h1,h2,hB⟩=>⟨_,he,xa,xk,xc1,yc,rfl,h1,h2,hB⟩
                rintro _ xq ⟨xa,xk,xc1,yc,rfl,hrA,hrK,hBq⟩
                have hSq:Sr dv wz xq:=hSk.ext hBq
                refine⟨hSq,?_⟩
                simp only[Act.put,sA,sZ,sS]
                have hEq:Ext wz xq:=(show Ext wz _ from((Ext.refl wz).drew)).trans hBq
                refine rg_one 9 (by kernel_rfl) ?_
                refine tk_new 9 (some 61) (.cells #[.int .i64 m.kind,.string (bs m.name),.string (bs m.text),.slice xa m.attrs.length xc1,.slice xk m.kids.length yc] 26) (fun n=> .slice (some ⟨n,0,none⟩) 1 1) rfl rfl (by rfl) (by first | rfl | go_simp) ?_
                intro gb xb egb hxb hzxb hC
                have hSb:Sr dv wz xb:=hSq.ext hxb
                refine⟨hSb,?_⟩
                simp only[Act.put,sA,sZ,sS]
                have hEb:Ext wz xb:=(show Ext wz _ from hEq).trans hxb
                have hbse:w5.heap.size≤xb.heap.size:=Nat.le_trans hXz.1 hEb.size
                refine rg_one 10 (by kernel_rfl) ?_
                refine tk_src 10 (some 62) rfl rfl (by rfl) (.tmp 53) (.tmp 61) 24 rfl w5.heap.size 26 j0 (.agg #[.int .i64 0,.string ⟨#[]⟩,.string ⟨#[]⟩,.slice none 0 0,.slice none 0 0]) 5 88 Tryz.underlying24 ji jz0 jz1 jz2 rfl (by decide) dv n0 us rfl (rows_ext husD hEb) (.slice (some ⟨gb,0,none⟩) 1 1) 1 [.int .i64 m.kind,.string (bs m.name),.string (bs m.text),.slice xa m.attrs.length xc1,.slice xk m.kids.length yc] rfl (Src.block hC rfl) (by intro u hu;simp at hu;rcases hu with rfl | rfl | rfl | rfl | rfl<;> rfl) (by unfold maxLen;omega) (by omega) hbse ?_
                intro v3 xc hr3 hg3 ha3
                have hSc:Sr dv wz xc:=hSb.grown hg3
                refine⟨hSc,?_⟩
                simp only[Act.put,sA,sZ,sS]
                refine rg_t 11 (some 63) (.pointer (some ⟨g7,4,none⟩)) rfl hSc (fun w' hs=>by first | rfl | go_simp) ?_
                simp only[Act.put,sA,sZ,sS]
                refine rg_t 12 none (.bool true) rfl hSc (fun w' hs=>by rfl) ?_
                simp only[Act.put,sA,sZ,sS]
                refine rg_done (by kernel_rfl) ?_
                obtain⟨v3a,v3c,rfl⟩:=own_form hr3
                have a4c:=hSc.cell l7 d7
                have a4f:=hSc.free l7 f7
                refine qlast_normal ?_
                refine tk_write 12 none (xc.setCell ⟨g7,4,none⟩ (.slice v3a (n0+1) v3c)) (by rfl) rfl (by rfl) (exec_store rfl (store_slice _ s1Node a4c a4f _ _ _)) ?_
                exact⟨gb,(.slice v3a (n0+1) v3c),xb,xc,xa,xk,xc1,yc,(by first | rfl | simp only[Act.put,sA,sZ,sS]),rfl,hEb,hC,hr3,hg3,ha3,hrA.ext hxb,hrK.ext hxb⟩
              rintro _ w9 ⟨gb,v3,xb,xc,xa,xk,xc1,yc,rfl,hw9,hEb,hC,hr3,hg3,ha3,hrA,hrK⟩
              simp only[Act.put,sA,sZ,sS]
              obtain⟨v3a,v3c,rfl⟩:=own_form hr3
              obtain⟨hmt,hn0,hreps,hb7,hnl,hmn⟩:=HST.out
              have hX9:Exc g7 w5 w9:=by rw[hw9];exact((hXz.ext hEb).grown hg3 fun k hk=>(husD.lt k hk).1).set (p:=⟨g7,4,none⟩) rfl _
              have hb9:B5 w9 g7 (.mk n.kind n.name n.text [] []) da (.slice v3a (n0+1) v3c):=by
                rw[hw9];exact((hb7.ext hEb).block hg3.size (hg3.block g7 (hb7.ext hEb).lt fun e=>by have:=(husD.lt g7 e.symm).1;omega)).set4 _ rfl rfl rfl
              have hO9:Own w9 (fun b=>w5.heap.size≤b) w5.heap.size 26 5 (.slice v3a (n0+1) v3c) (mixF l (ks.take (i+1))).length ((mixF l (ks.take (i+1))).flatMap nodeC):=by
                rw[hmt,List.length_append,List.flatMap_append,List.flatMap_singleton,nodeC_eq,hn0,hw9]
                have hfr:∀(u:Value) (d:DV),Rep xb (fun b=>wz.heap.size≤b) u d→Rep xb (fun b=>w5.heap.size≤b∧some b≠dv.ownBlock∧b< xb.heap.size) u d:=fun u d h=>h.lt.ok fun b hb=>⟨by have:=hb.1;have:=hXz.1;omega,fun e=>by have:=(husD.lt b e.symm).2;have:=hb.1;omega,hb.2⟩
                exact own_set (Own.push ((hreps.ext hEb).ok fun b hb=>⟨hb.1,hb.2.1,Nat.lt_of_lt_of_le hb.2.2 hEb.size⟩) (Reps.cons (Rep.int _ _ _ _) (Reps.cons (Rep.string _ _ _ (by rw[bs_size,hmn.1];exact hnl.1)) (Reps.cons (Rep.string _ _ _ (by rw[bs_size,hmn.2];exact hnl.2)) (Reps.cons (e:=attrsD m.attrs) (hfr _ _ hrA) (Reps.cons (e:=nodesD m.kids) (hfr _ _ hrK) (Reps.nil _ _)))))) hr3 hg3 ha3) (fun b hb=>by have hb':w5.heap.size≤b:=hb;omega) hl5.1 _
              have HR9:=Lh (show LB n w5 w9 g7 da (.slice v3a (n0+1) v3c) (mixF l (ks.take (i+1))) from⟨hX9,hb9,hO9⟩)
              clear hmt hn0 hreps hb7 hnl hmn hX9 hb9 hO9 hr3 hg3 ha3 hw9 hEb hC husD d7 f7 l7 lk la k4 a0 a1 a2 a3 a4 hrA hrK HMX
              go_wp2_with fail
              go_roundw
              case rel=>exact⟨i+1,_,by go_num,by omega,HR9⟩
              case measure=>simp only[downV];omega
            · have hlI:¬(i:Int)< (ks.length:Int):=by omega
              have HLB:Hid (LB n w5 wz g7 da dv (mixF l ks)):=Lh (by have:=HI.out;rwa [List.take_of_length_le (by omega)]at this)
              obtain⟨K,hK⟩:∃k,mixF l ks=k:=⟨_,rfl⟩
              rw[hK]at HLB HRF
              clear hGk hpg hkz hlz hbk hb7 hi HI hK
              obtain⟨dva,dvc,rfl,_,_⟩:=HLB.out.2.2.form
              obtain⟨daa,dac,hda,_,_⟩:=HA5.out.2.2.count z_attr (by omega)
              rw[List.length_reverse]at hda
              subst hda
              have hm7:=HLB.out.2.1
              have m0:=hm7.c0;have m1:=hm7.c1;have m2:=hm7.c2;have m3:=hm7.c3;have m4:=hm7.c4
              have hrr:=(HG.out.2.2.2.2.2.2.1.exc (show gr≠g7 by have:=HG.out;omega) HA5.out.2.1).exc (show gr≠g7 by have:=HG.out;omega) HLB.out.1
              obtain⟨u0,z0⟩:∃u,wz.cell? ⟨gr,0,none⟩=some u:=⟨_,hrr.c0⟩
              obtain⟨u1,z1⟩:∃u,wz.cell? ⟨gr,1,none⟩=some u:=⟨_,hrr.c1⟩
              obtain⟨u2,z2⟩:∃u,wz.cell? ⟨gr,2,none⟩=some u:=⟨_,hrr.c2⟩
              obtain⟨u3,z3⟩:∃u,wz.cell? ⟨gr,3,none⟩=some u:=⟨_,hrr.c3⟩
              obtain⟨u4,z4⟩:∃u,wz.cell? ⟨gr,4,none⟩=some u:=⟨_,hrr.c4⟩
              have y0:=hrr.f0;have y1:=hrr.f1;have y2:=hrr.f2;have y3:=hrr.f3;have y4:=hrr.f4
              have HP:=Lh (show B5 (st5 wz gr (.mk n.kind n.name n.text n.attrs.reverse K) (.slice daa n.attrs.length dac) (.slice dva K.length dvc)) gr (.mk n.kind n.name n.text n.attrs.reverse K) (.slice daa n.attrs.length dac) (.slice dva K.length dvc)∧Ext W (st5 wz gr (.mk n.kind n.name n.text n.attrs.reverse K) (.slice daa n.attrs.length dac) (.slice dva K.length dvc))∧Rep (st5 wz gr (.mk n.kind n.name n.text n.attrs.reverse K) (.slice daa n.attrs.length dac) (.slice dva K.length dvc)) (fun b=>W.heap.size≤b) (.slice daa n.attrs.length dac) (attrsD n.attrs.reverse)∧Rep (st5 wz gr (.mk n.kind n.name n.text n.attrs.reverse K) (.slice daa n.attrs.length dac) (.slice dva K.length dvc)) (fun b=>W.heap.size≤b) (.slice dva K.length dvc) (nodesD K) from by
                have hst:∀b,b≠gr→(st5 wz gr (.mk n.kind n.name n.text n.attrs.reverse K) (.slice daa n.attrs.length dac) (.slice dva K.length dvc)).heap[b]? =wz.heap[b]? :=fun b hb=>st5_block wz gr _ _ _ hb
                have hg:=HG.out
                have hs:=HA5.out.2.1.1
                refine⟨hrr.put,Ext.st5 (HLB.out.1.to (HA5.out.2.1.to hg.2.2.2.2.1 (by omega)) (by omega)) (by omega) _ _ _,?_,?_⟩
                · exact((HA5.out.2.2.exc (fun b hb=>hb.2) HLB.out.1).kept fun b hb _=>hst b (by have:=hb.1;omega)).ok fun b hb=>by have:=hb.1;omega
                · exact(HLB.out.2.2.rep.kept fun b hb _=>hst b (by rcases hb with hb | hb<;> (have hb':_≤b:=hb;omega))).ok fun b hb=>by rcases hb with hb | hb<;> (have hb':_≤b:=hb;omega))
              clear hm7 hrr
              go_wp2_with fail
              refine bodyPost_ret (res_one rfl _ _ _ ⟨gr,0,none⟩ ?_ (load_node HP.out.1)) rfl ?_
              · rfl
              rw[HRF.out]
              exact⟨⟨_,_,rfl,HP.out.2.2.1,HP.out.2.2.2⟩,HP.out.2.1⟩)
      · obtain⟨hf0,hfr0⟩:¬ff< 0∧fr=false:=by
          refine⟨fun h=>hway (.inl h),?_⟩
          cases fr
          · rfl
          · exact absurd (.inr rfl) hway
        clear hway
        subst hfr0
        · skip
          have HRK:Hid (R= .mk n.kind n.name n.text n.attrs.reverse (mixK l ks path)):=Lh (by rw[HRR.out,if_neg (by simp;omega)])
          clear HRR
          go_wp2_with fail
          refine(HFI.out _ (Ext.refl _)).mono ?_
          rintro e w4 ⟨rfl,hD4⟩
          go_wp2_with fail
          refine(HFR.out _ hD4.ext).mono ?_
          rintro e w5 ⟨rfl,hD5⟩
          obtain⟨da,hda⟩:∃x,x=dv:=⟨_,rfl⟩
          subst hda
          obtain⟨wA,hwA⟩:∃x,x=wr:=⟨_,rfl⟩
          subst hwA
          have HE5:Hid (Ext wA w5):=Lh (hD4.ext.trans hD5.ext)
          have HA5:Hid (B5 w5 g7 (.mk n.kind n.name n.text [] []) da (.slice none 0 0)∧Exc g7 w2 w5∧Rep w5 (fun b=>w2.heap.size≤b∧b≠g7) da (attrsD n.attrs.reverse)):=Lh (by
            obtain⟨h1,h2,h3⟩:=HLA.out
            refine⟨h2.ext HE5.out,h1.ext HE5.out,?_⟩
            have h4:=(h3.rep.ext HE5.out)
            rw[List.drop_zero]at h4
            exact h4.ok fun b hb=>by rcases hb with hb | hb;exact hb.elim;have:=HG.out;exact⟨hb,by have hb':w2.heap.size≤b:=hb;omega⟩)
          clear hD4 hD5 HFI HFR
          have k4:=(HG.out.2.2.2.2.2.1.exc (show gk≠g7 by have:=HG.out;omega) HA5.out.2.1).c4
          obtain⟨zq,hzq⟩:∃z:Int,(ks.length:Int) - 1=z:=⟨_,rfl⟩
          have hzqw:IntKind.i64.wrap zq=zq:=by rw[IntKind.wrap_i64];omega
          have HZQ:=Lh hzq
          go_wp2_with fail
          go_loopw [10] (fun t wx=>∃(i:Nat) (z:Int) (dv:Value),t= .int .i64 z∧z=(i:Int) - 1∧i≤ks.length∧Hid (LB n w5 wx g7 da dv (mixK l (ks.drop i) path))) (fun t _=>upV t)
          case atStart=>exact⟨ks.length,_,_,rfl,HZQ.out.symm,Nat.le_refl _,Lh ⟨Exc.refl _ _,HA5.out.1,by rw[List.drop_length,mixK];exact Own.nil _ _ _ _ _⟩⟩
          case round=>
            clear k4 hzq hzqw
            obtain⟨i,z,dv,rfl,hzi,hi,HI⟩:=hrel
            obtain⟨wz,hwz⟩:∃x,x=wr:=⟨_,rfl⟩
            subst hwz
            have hXz:Exc g7 w5 wz:=HI.out.1
            have hGk:=HG.out
            have hpg:∀b,b< W.heap.size→b≠g7:=fun b hb=>by omega
            have hkz:=((HH.out.2.2.2.1.lt.ext hGk.2.2.2.2.1).exc (fun b hb=>hpg b hb.2) HA5.out.2.1).exc (fun b hb=>hpg b hb.2) hXz
            have hlz:=((HH.out.1.lt.ext hGk.2.2.2.2.1).exc (fun b hb=>hpg b hb.2) HA5.out.2.1).exc (fun b hb=>hpg b hb.2) hXz
            have hpz:=((HH.out.2.1.lt.ext hGk.2.2.2.2.1).exc (fun b hb=>hpg b hb.2) HA5.out.2.1).exc (fun b hb=>hpg b hb.2) hXz
            have hbk:=(hGk.2.2.2.2.2.1.exc (show gk≠g7 by omega) HA5.out.2.1).exc (show gk≠g7 by omega) hXz
            have hb7:=HI.out.2.1
            have k4:=hbk.c4
            have hsz5:w2.heap.size≤w5.heap.size:=HA5.out.2.1.1
            cases i with
            | succ i=>
              have hzj:z=(i:Int):=by omega
              subst hzj
              have hi0:(0:Int)≤(i:Int):=by omega
              have hlt:i< ks.length:=by omega
              obtain⟨ga,oa,za,zk,eb,lga,pga,a0,a1,a2,a3,a4,hya,hyk⟩:=node_at hkz i hlt
              subst eb
              have hnl:=node_len HH.out.2.2.2.1 i hlt
              have hmt:=mixK_drop l path ks i hlt
              have hmem:=List.getElem_mem hlt
              have hcy:=kid_le ks i hlt
              obtain⟨y,hy⟩:∃y,ks[i]=y:=⟨_,rfl⟩
              rw[hy]at a0 a1 a2 hya hyk hnl hmt hmem hcy
              obtain⟨yab,yac,rfl,_,_⟩:=hya.count z_attr (by omega)
              obtain⟨ykb,ykc,rfl,_,_⟩:=hyk.count z_node (by omega)
              obtain⟨m,hm⟩:∃m,mixN l y (path++ [y.name])=m:=⟨_,rfl⟩
              rw[hm]at hmt
              have hmn:m.name=y.name∧m.text=y.text:=by rw[←hm,mixN_eq];exact⟨rfl,rfl⟩
              have hnz:nsz y< nsz n:=nsz_mem n y (by rw[HH.out.2.2.2.2.2.2.1];exact hmem)
              have hckn:=cnt_kids n
              rw[HH.out.2.2.2.2.2.2.1]at hckn
              have hcn:=HH.out.2.2.2.2.2.1
              have hpl:path.length≤4194304:=by have:=HH.out.2.2.2.2.2.2.2.2;omega
              have HMX:Hid (∀X vq (s:Nat→Prop),Ext wz X→Rep X s vq (strsD (path++ [y.name]))→Calls Tryz.prog 8 #[.slice la0 l.length lc,.agg #[.int .i64 y.kind,.string (bs y.name),.string (bs y.text),.slice yab y.attrs.length yac,.slice ykb y.kids.length ykc],vq] X fun e w'=>∃(xa xk:Option Addr) (xc1 yc:Nat),e= .returned (.agg #[.int .i64 m.kind,.string (bs m.name),.string (bs m.text),.slice xa m.attrs.length xc1,.slice xk m.kids.length yc])∧Rep w' (fun b=>wz.heap.size≤b) (.slice xa m.attrs.length xc1) (attrsD m.attrs)∧Rep w' (fun b=>wz.heap.size≤b) (.slice xk m.kids.length yc) (nodesD m.kids)∧Ext X w'):=Lh fun X vq s hE hvq=>
                (ih y (path++ [y.name]) X _ _ _ _ _ _ _ (by have:=HH.out.2.2.2.2.1;omega) (by omega) (by have:=HH.out.2.2.2.2.2.2.2.2;simp;omega) (hlz.ext hE) hvq (hya.ext hE) (hyk.ext hE)).mono fun e w' ⟨⟨ua,uk,he,h1,h2⟩,hB⟩=>by
                  rw[hm]at he h1 h2
                  obtain⟨xa,xc1,rfl,_,_⟩:=h1.count z_attr (by omega)
                  obtain⟨xk,yc,rfl,_,_⟩:=h2.count z_node (by omega)
                  exact⟨xa,xk,xc1,yc,he,h1.ok fun b hb=>Nat.le_trans hE.size hb,h2.ok fun b hb=>Nat.le_trans hE.size hb,hB⟩
              obtain⟨ps,hps0,hpsl,_,_,hps⟩:=rep_src hpz unStrM szStrM
              have hp1:=hps0.one (flat_one one_str path)
              have HPX:Hid (∀(X:World) (v:Value),Ext wz X→X.ownsRow wz.heap.size 9 1 v (path.length+1) (ps++ [.string (bs y.name)])→Rep X (fun b=>True∨wz.heap.size≤b) v (strsD (path++ [y.name]))):=Lh fun X v hE hr=>
                Own.rep (p:=fun _=>True) (base:=wz.heap.size) (e:=9) (n:=path.length+1) ⟨_,hr,by
                  rw[List.flatMap_append,List.flatMap_singleton]
                  exact(reps_strs hps0).append (Reps.cons (Rep.string _ _ _ (by rw[bs_size];exact hnl.1)) (Reps.nil _ _))⟩
              obtain⟨us,husD,hreps⟩:=HI.out.2.2.rows
              obtain⟨n0,hn0⟩:∃k,(mixK l (ks.drop (i+1)) path).length=k:=⟨_,rfl⟩
              have hn0l:n0≤4194304:=by rw[←hn0,mixK_len,List.length_drop];omega
              rw[hn0]at husD
              have hdl:∀b,dv.ownBlock=some b→w5.heap.size≤b:=fun b hb=>(husD.lt b hb).1
              have d7:=hb7.c4
              have f7:=hb7.f4
              have hl5:g7< w5.heap.size∧gk< w5.heap.size∧W.heap.size≤w5.heap.size:=by omega
              have l7:g7< wz.heap.size∧some g7≠dv.ownBlock:=⟨hb7.lt,fun e=>by have:=hdl g7 e.symm;omega⟩
              have lk:gk< wz.heap.size∧some gk≠dv.ownBlock:=⟨hbk.lt,fun e=>by have:=hdl gk e.symm;omega⟩
              have la:ga< wz.heap.size∧some ga≠dv.ownBlock:=⟨lga,fun e=>by have:=hdl ga e.symm;have:=pga.2;omega⟩
              have HST:=Lh (And.intro hmt (And.intro hn0 (And.intro hreps (And.intro hb7 (And.intro hnl (And.intro hmn hzi))))))
              clear hGk hpg hkz hlz hpz hbk hb7 hy hmt hmem hcy hm hmn hnz hckn hcn hya hyk hreps hn0 hdl HI pga hps0 hzi
              go_upto_region 15 with fail
              refine region_merge (fun ac ac' w'=>∃(gb:Nat) (v3:Value) (xb:World) (xc:World) (gan:Nat) (gbn:Nat) (v2n:Value) (v3n:Value) (xa:Option Addr) (xk:Option Addr) (xc1:Nat) (yc:Nat),ac'=((((((((((((((((((((((((ac.put (some 73) (.pointer (some ⟨g7,4,none⟩))).put (some 74) (dv)).put (some 75) (.agg #[.int .i64 3,.string ⟨#[]⟩,.string ⟨#[99]⟩,.slice none 0 0,.slice none 0 0])).put (some 76) (.slice la0 l.length lc)).put (some 77) (.pointer (some ⟨gk,4,none⟩))).put (some 78) (.slice (some ⟨ga,oa,none⟩) ks.length ck)).put (some 79) (.int .i64 i)).put (some 80) (.pointer (some ⟨ga,oa+i*5,none⟩))).put (some 81) (.agg #[.int .i64 y.kind,.string (bs y.name),.string (bs y.text),.slice yab y.attrs.length yac,.slice ykb y.kids.length ykc])).put (some 82) (.slice (some ⟨gan,0,none⟩) 0 0)).put (some 83) (.slice pa path.length pc)).put (some 84) (v2n)).put (some 85) (.pointer (some ⟨gk,4,none⟩))).put (some 86) (.slice (some ⟨ga,oa,none⟩) ks.length ck)).put (some 87) (.int .i64 i)).put (some 88) (.pointer (some ⟨ga,oa+i*5,none⟩))).put (some 89) (.pointer (some ⟨ga,oa+i*5+1,none⟩))).put (some 90) (.string (bs y.name))).put (some 91) (.slice (some ⟨gbn,0,none⟩) 1 1)).put (some 92) (v3n)).put (some 93) (.agg #[.int .i64 m.kind,.string (bs m.name),.string (bs m.text),.slice xa m.attrs.length xc1,.slice xk m.kids.length yc])).put (some 94) (.slice (some ⟨gb,0,none⟩) 2 2)).put (some 95) (v3)).put (some 96) (.pointer (some ⟨g7,4,none⟩)))∧w'=xc.setCell ⟨g7,4,none⟩ v3∧Ext wz xb∧xb.heap[gb]? =some (.cells #[.int .i64 3,.string ⟨#[]⟩,.string ⟨#[99]⟩,.slice none 0 0,.slice none 0 0,.int .i64 m.kind,.string (bs m.name),.string (bs m.text),.slice xa m.attrs.length xc1,.slice xk m.kids.length yc] 26 (0,0))∧World.ownsRow xc w5.heap.size 26 5 v3 (n0+2) (us++ [.int .i64 3,.string ⟨#[]⟩,.string ⟨#[99]⟩,.slice none 0 0,.slice none 0 0,.int .i64 m.kind,.string (bs m.name),.string (bs m.text),.slice xa m.attrs.length xc1,.slice xk m.kids.length yc])∧World.grownBy xb xc dv.ownBlock∧(v3.ownBlock=dv.ownBlock∨v3.ownBlock=some xb.heap.size)∧Rep xb (fun b=>wz.heap.size≤b) (.slice xa m.attrs.length xc1) (attrsD m.attrs)∧Rep xb (fun b=>wz.heap.size≤b) (.slice xk m.kids.length yc) (nodesD m.kids)) ?_ ?_
              · refine rg_aside (S := Sr dv wz) 24 ⟨none, .store 24 (.tmp 96) (.tmp 95), 0, "law.go:87", #[⟨23, .data⟩, ⟨22, .data⟩, ⟨22, .chain⟩, ⟨0, .phase⟩, ⟨1, .phase⟩, ⟨2, .phase⟩, ⟨3, .phase⟩, ⟨4, .phase⟩, ⟨5, .phase⟩, ⟨6, .phase⟩, ⟨7, .phase⟩, ⟨8, .phase⟩, ⟨9, .phase⟩, ⟨10, .phase⟩, ⟨11, .phase⟩, ⟨12, .phase⟩, ⟨13, .phase⟩, ⟨14, .phase⟩, ⟨15, .phase⟩, ⟨16, .phase⟩, ⟨17, .phase⟩, ⟨18, .phase⟩, ⟨19, .phase⟩, ⟨20, .phase⟩, ⟨21, .phase⟩, ⟨22, .phase⟩], none⟩ (by kernel_rfl) (by decide) rfl rfl (by kernel_rfl) (by kernel_rfl) (Sr.begin _ _) ?_
                have hSk:Sr dv wz (World.drew wz):=(Sr.begin _ _)
                simp only[List.setIfInBounds_toArray,List.set_cons_zero,List.set_cons_succ]
                refine rg_t 0 (some 73) (.pointer (some ⟨g7,4,none⟩)) rfl hSk (fun w' hs=>by first | rfl | go_simp) ?_
                simp only[Act.put,sA,sZ,sS]
                refine rg_t 1 (some 74) (dv) rfl hSk (fun w' hs=>by(have h0:=hs.cell l7 d7;go_simp)) ?_
                simp only[Act.put,sA,sZ,sS]
                refine rg_t 2 (some 75) (.agg #[.int .i64 3,.string ⟨#[]⟩,.string ⟨#[99]⟩,.slice none 0 0,.slice none 0 0]) rfl hSk (fun w' hs=>by first | rfl | go_simp) ?_
                simp only[Act.put,sA,sZ,sS]
                refine rg_t 3 (some 76) (.slice la0 l.length lc) rfl hSk (fun w' hs=>by rfl) ?_
                simp only[Act.put,sA,sZ,sS]
                refine rg_t 4 (some 77) (.pointer (some ⟨gk,4,none⟩)) rfl hSk (fun w' hs=>by first | rfl | go_simp) ?_
                simp only[Act.put,sA,sZ,sS]
                refine rg_t 5 (some 78) (.slice (some ⟨ga,oa,none⟩) ks.length ck) rfl hSk (fun w' hs=>by(have h0:=hs.cell lk k4;go_simp)) ?_
                simp only[Act.put,sA,sZ,sS]
                refine rg_t 6 (some 79) (.int .i64 i) rfl hSk (fun w' hs=>by rfl) ?_
                simp only[Act.put,sA,sZ,sS]
                refine rg_t 7 (some 80) (.pointer (some ⟨ga,oa+i*5,none⟩)) rfl hSk (fun w' hs=>by first | rfl | go_simp) ?_
                simp only[Act.put,sA,sZ,sS]
                refine rg_t 8 (some 81) (.agg #[.int .i64 y.kind,.string (bs y.name),.string (bs y.text),.slice yab y.attrs.length yac,.slice ykb y.kids.length ykc]) rfl hSk (fun w' hs=>by(have h0:=hs.cell la a0;have h1:=hs.cell la a1;have h2:=hs.cell la a2;have h3:=hs.cell la a3;have h4:=hs.cell la a4;go_simp)) ?_
                simp only[Act.put,sA,sZ,sS]
                refine rg_t 10 (some 83) (.slice pa path.length pc) rfl hSk (fun w' hs=>by rfl) ?_
                simp only[Act.put,sA,sZ,sS]
                refine rg_t 12 (some 85) (.pointer (some ⟨gk,4,none⟩)) rfl hSk (fun w' hs=>by first | rfl | go_simp) ?_
                simp only[Act.put,sA,sZ,sS]
                refine rg_t 13 (some 86) (.slice (some ⟨ga,oa,none⟩) ks.length ck) rfl hSk (fun w' hs=>by(have h0:=hs.cell lk k4;go_simp)) ?_
                simp only[Act.put,sA,sZ,sS]
                refine rg_t 14 (some 87) (.int .i64 i) rfl hSk (fun w' hs=>by rfl) ?_
                simp only[Act.put,sA,sZ,sS]
                refine rg_t 15 (some 88) (.pointer (some ⟨ga,oa+i*5,none⟩)) rfl hSk (fun w' hs=>by first | rfl | go_simp) ?_
                simp only[Act.put,sA,sZ,sS]
                refine rg_t 16 (some 89) (.pointer (some ⟨ga,oa+i*5+1,none⟩)) rfl hSk (fun w' hs=>by first | rfl | go_simp) ?_
                simp only[Act.put,sA,sZ,sS]
                refine rg_t 17 (some 90) (.string (bs y.name)) rfl hSk (fun w' hs=>by(have h0:=hs.cell la a1;go_simp)) ?_
                simp only[Act.put,sA,sZ,sS]
                refine rg_row 9 18 11 19 82 91 84 92 83 90 36 9 s0 (.string ⟨#[]⟩) 1 16 rfl rfl rfl rfl Tryz.underlying36 si sz0 sz1 sz2 rfl (by decide) (.string (bs y.name)) (.slice pa path.length pc) [.string (bs y.name)] (ps) (path.length) rfl rfl (hps.ext (Ext.refl wz).drew) hp1 (by intro u hu;simp at hu;rcases hu with rfl;rfl) rfl (by omega) (by decide) (fun w' h=>hSk.ext h) (fun ev W=>by first | rfl | go_simp) (fun ev W hK hX=>by first | rfl | go_simp) ?_
                intro gan gbn v2n v3n wxn hEn hrn hSn
                simp only[Act.put,sA,sZ,sS]
                have hEw:Ext wz wxn:=(Ext.refl wz).drew.trans hEn
                have hPS:=HPX.out wxn v3n hEw hrn
                refine rg_one 20 (by kernel_rfl) ?_
                refine tk_call 20 (some 93) 8 #[.slice la0 l.length lc,.agg #[.int .i64 y.kind,.string (bs y.name),.string (bs y.text),.slice yab y.attrs.length yac,.slice ykb y.kids.length ykc],v3n] rfl rfl (by rfl) (fun w'=>by first | rfl | go_simp) (R:=fun v w'=>∃(xa xk:Option Addr) (xc1 yc:Nat),v= .agg #[.int .i64 m.kind,.string (bs m.name),.string (bs m.text),.slice xa m.attrs.length xc1,.slice xk m.kids.length yc]∧Rep w' (fun b=>wz.heap.size≤b) (.slice xa m.attrs.length xc1) (attrsD m.attrs)∧Rep w' (fun b=>wz.heap.size≤b) (.slice xk m.kids.length yc) (nodesD m.kids)∧Ext wxn w') ?_ ?_
                · exact(HMX.out _ _ _ hEw hPS).mono fun e w' ⟨xa,xk,xc1,yc,he,h1,h2,hB⟩=>⟨_,he,xa,xk,xc1,yc,rfl,h1,h2,hB⟩
                rintro _ xq ⟨xa,xk,xc1,yc,rfl,hrA,hrK,hBq⟩
                have hSq:Sr dv wz xq:=hSn.ext hBq
                refine⟨hSq,?_⟩
                simp only[Act.put,sA,sZ,sS]
                have hEq:Ext wz xq:=(show Ext wz _ from hEw).trans hBq
                refine rg_one 21 (by kernel_rfl) ?_
                refine tk_new 21 (some 94) (.cells #[.int .i64 3,.string ⟨#[]⟩,.string ⟨#[99]⟩,.slice none 0 0,.slice none 0 0,.int .i64 m.kind,.string (bs m.name),.string (bs m.text),.slice xa m.attrs.length xc1,.slice xk m.kids.length yc] 26) (fun n=> .slice (some ⟨n,0,none⟩) 2 2) rfl rfl (by rfl) (by first | rfl | go_simp) ?_
                intro gb xb egb hxb hzxb hC
                have hSb:Sr dv wz xb:=hSq.ext hxb
                refine⟨hSb,?_⟩
                simp only[Act.put,sA,sZ,sS]
                have hEb:Ext wz xb:=(show Ext wz _ from hEq).trans hxb
                have hbse:w5.heap.size≤xb.heap.size:=Nat.le_trans hXz.1 hEb.size
                refine rg_one 22 (by kernel_rfl) ?_
                refine tk_src 22 (some 95) rfl rfl (by rfl) (.tmp 74) (.tmp 94) 24 rfl w5.heap.size 26 j0 (.agg #[.int .i64 0,.string ⟨#[]⟩,.string ⟨#[]⟩,.slice none 0 0,.slice none 0 0]) 5 88 Tryz.underlying24 ji jz0 jz1 jz2 rfl (by decide) dv n0 us rfl (rows_ext husD hEb) (.slice (some ⟨gb,0,none⟩) 2 2) 2 [.int .i64 3,.string ⟨#[]⟩,.string ⟨#[99]⟩,.slice none 0 0,.slice none 0 0,.int .i64 m.kind,.string (bs m.name),.string (bs m.text),.slice xa m.attrs.length xc1,.slice xk m.kids.length yc] rfl (Src.block hC rfl) (by intro u hu;simp at hu;rcases hu with rfl | rfl | rfl | rfl | rfl | rfl | rfl | rfl | rfl | rfl<;> rfl) (by unfold maxLen;omega) (by omega) hbse ?_
                intro v3 xc hr3 hg3 ha3
                have hSc:Sr dv wz xc:=hSb.grown hg3
                refine⟨hSc,?_⟩
                simp only[Act.put,sA,sZ,sS]
                refine rg_t 23 (some 96) (.pointer (some ⟨g7,4,none⟩)) rfl hSc (fun w' hs=>by first | rfl | go_simp) ?_
                simp only[Act.put,sA,sZ,sS]
                refine rg_t 24 none (.bool true) rfl hSc (fun w' hs=>by rfl) ?_
                simp only[Act.put,sA,sZ,sS]
                refine rg_done (by kernel_rfl) ?_
                obtain⟨v3a,v3c,rfl⟩:=own_form hr3
                have a4c:=hSc.cell l7 d7
                have a4f:=hSc.free l7 f7
                refine qlast_normal ?_
                refine tk_write 24 none (xc.setCell ⟨g7,4,none⟩ (.slice v3a (n0+2) v3c)) (by rfl) rfl (by rfl) (exec_store rfl (store_slice _ s1Node a4c a4f _ _ _)) ?_
                exact⟨gb,(.slice v3a (n0+2) v3c),xb,xc,gan,gbn,v2n,v3n,xa,xk,xc1,yc,(by first | rfl | simp only[Act.put,sA,sZ,sS]),rfl,hEb,hC,hr3,hg3,ha3,hrA.ext hxb,hrK.ext hxb⟩
              rintro _ w9 ⟨gb,v3,xb,xc,gan,gbn,v2n,v3n,xa,xk,xc1,yc,rfl,hw9,hEb,hC,hr3,hg3,ha3,hrA,hrK⟩
              simp only[Act.put,sA,sZ,sS]
              obtain⟨v3a,v3c,rfl⟩:=own_form hr3
              obtain⟨hmt,hn0,hreps,hb7,hnl,hmn,hzi⟩:=HST.out
              have hX9:Exc g7 w5 w9:=by rw[hw9];exact((hXz.ext hEb).grown hg3 fun k hk=>(husD.lt k hk).1).set (p:=⟨g7,4,none⟩) rfl _
              have hb9:B5 w9 g7 (.mk n.kind n.name n.text [] []) da (.slice v3a (n0+2) v3c):=by
                rw[hw9];exact((hb7.ext hEb).block hg3.size (hg3.block g7 (hb7.ext hEb).lt fun e=>by have:=(husD.lt g7 e.symm).1;omega)).set4 _ rfl rfl rfl
              have hO9:Own w9 (fun b=>w5.heap.size≤b) w5.heap.size 26 5 (.slice v3a (n0+2) v3c) (mixK l (ks.drop i) path).length ((mixK l (ks.drop i) path).flatMap nodeC):=by
                rw[hmt,List.length_append,List.flatMap_append,show([cmN,m]:List Node).flatMap nodeC=nodeC cmN++nodeC m by simp,nodeC_eq m,hn0,hw9]
                have hfr:∀(u:Value) (d:DV),Rep xb (fun b=>wz.heap.size≤b) u d→Rep xb (fun b=>w5.heap.size≤b∧some b≠dv.ownBlock∧b< xb.heap.size) u d:=fun u d h=>h.lt.ok fun b hb=>⟨by have:=hb.1;have:=hXz.1;omega,fun e=>by have:=(husD.lt b e.symm).2;have:=hb.1;omega,hb.2⟩
                exact own_set (Own.push ((hreps.ext hEb).ok fun b hb=>⟨hb.1,hb.2.1,Nat.lt_of_lt_of_le hb.2.2 hEb.size⟩) ((reps_cm _ _).append (Reps.cons (Rep.int _ _ _ _) (Reps.cons (Rep.string _ _ _ (by rw[bs_size,hmn.1];exact hnl.1)) (Reps.cons (Rep.string _ _ _ (by rw[bs_size,hmn.2];exact hnl.2)) (Reps.cons (e:=attrsD m.attrs) (hfr _ _ hrA) (Reps.cons (e:=nodesD m.kids) (hfr _ _ hrK) (Reps.nil _ _))))))) hr3 hg3 ha3) (fun b hb=>by have hb':w5.heap.size≤b:=hb;omega) hl5.1 _
              have HR9:=Lh (show LB n w5 w9 g7 da (.slice v3a (n0+2) v3c) (mixK l (ks.drop i) path) from⟨hX9,hb9,hO9⟩)
              obtain⟨z',hz'⟩:∃z:Int,(i:Int) - 1=z:=⟨_,rfl⟩
              have hzw':IntKind.i64.wrap z'=z':=by rw[IntKind.wrap_i64];omega
              have HZ':=Lh hz'
              clear hmt hn0 hreps hb7 hnl hmn hX9 hb9 hO9 hr3 hg3 ha3 hw9 hEb hC husD d7 f7 l7 lk la k4 a0 a1 a2 a3 a4 hrA hrK HMX HPX hps hp1 hzi
              go_wp2_with fail
              go_roundw
              case rel=>exact⟨i,_,_,rfl,HZ'.out.symm,by omega,HR9⟩
              case measure=>have:=HZ'.out;simp only[upV];omega
            | zero=>
              have hz1':¬(0:Int)≤z:=by omega
              have HLB:Hid (LB n w5 wz g7 da dv (mixK l ks path)):=Lh (by have:=HI.out;rwa [List.drop_zero]at this)
              have HRF:Hid (R= .mk n.kind n.name n.text n.attrs.reverse (mixK l ks path)):=HRK
              obtain⟨K,hK⟩:∃k,mixK l ks path=k:=⟨_,rfl⟩
              rw[hK]at HLB HRF
              clear hGk hpg hkz hlz hpz hbk hb7 hi HI hK HRK hzi
              obtain⟨dva,dvc,rfl,_,_⟩:=HLB.out.2.2.form
              obtain⟨daa,dac,hda,_,_⟩:=HA5.out.2.2.count z_attr (by omega)
              rw[List.length_reverse]at hda
              subst hda
              have hm7:=HLB.out.2.1
              have m0:=hm7.c0;have m1:=hm7.c1;have m2:=hm7.c2;have m3:=hm7.c3;have m4:=hm7.c4
              have hrr:=(HG.out.2.2.2.2.2.2.1.exc (show gr≠g7 by have:=HG.out;omega) HA5.out.2.1).exc (show gr≠g7 by have:=HG.out;omega) HLB.out.1
              obtain⟨u0,z0⟩:∃u,wz.cell? ⟨gr,0,none⟩=some u:=⟨_,hrr.c0⟩
              obtain⟨u1,z1⟩:∃u,wz.cell? ⟨gr,1,none⟩=some u:=⟨_,hrr.c1⟩
              obtain⟨u2,z2⟩:∃u,wz.cell? ⟨gr,2,none⟩=some u:=⟨_,hrr.c2⟩
              obtain⟨u3,z3⟩:∃u,wz.cell? ⟨gr,3,none⟩=some u:=⟨_,hrr.c3⟩
              obtain⟨u4,z4⟩:∃u,wz.cell? ⟨gr,4,none⟩=some u:=⟨_,hrr.c4⟩
              have y0:=hrr.f0;have y1:=hrr.f1;have y2:=hrr.f2;have y3:=hrr.f3;have y4:=hrr.f4
              have HP:=Lh (show B5 (st5 wz gr (.mk n.kind n.name n.text n.attrs.reverse K) (.slice daa n.attrs.length dac) (.slice dva K.length dvc)) gr (.mk n.kind n.name n.text n.attrs.reverse K) (.slice daa n.attrs.length dac) (.slice dva K.length dvc)∧Ext W (st5 wz gr (.mk n.kind n.name n.text n.attrs.reverse K) (.slice daa n.attrs.length dac) (.slice dva K.length dvc))∧Rep (st5 wz gr (.mk n.kind n.name n.text n.attrs.reverse K) (.slice daa n.attrs.length dac) (.slice dva K.length dvc)) (fun b=>W.heap.size≤b) (.slice daa n.attrs.length dac) (attrsD n.attrs.reverse)∧Rep (st5 wz gr (.mk n.kind n.name n.text n.attrs.reverse K) (.slice daa n.attrs.length dac) (.slice dva K.length dvc)) (fun b=>W.heap.size≤b) (.slice dva K.length dvc) (nodesD K) from by
                have hst:∀b,b≠gr→(st5 wz gr (.mk n.kind n.name n.text n.attrs.reverse K) (.slice daa n.attrs.length dac) (.slice dva K.length dvc)).heap[b]? =wz.heap[b]? :=fun b hb=>st5_block wz gr _ _ _ hb
                have hg:=HG.out
                have hs:=HA5.out.2.1.1
                refine⟨hrr.put,Ext.st5 (HLB.out.1.to (HA5.out.2.1.to hg.2.2.2.2.1 (by omega)) (by omega)) (by omega) _ _ _,?_,?_⟩
                · exact((HA5.out.2.2.exc (fun b hb=>hb.2) HLB.out.1).kept fun b hb _=>hst b (by have:=hb.1;omega)).ok fun b hb=>by have:=hb.1;omega
                · exact(HLB.out.2.2.rep.kept fun b hb _=>hst b (by rcases hb with hb | hb<;> (have hb':_≤b:=hb;omega))).ok fun b hb=>by rcases hb with hb | hb<;> (have hb':_≤b:=hb;omega))
              clear hm7 hrr
              go_wp2_with fail
              refine bodyPost_ret (res_one rfl _ _ _ ⟨gr,0,none⟩ ?_ (load_node HP.out.1)) rfl ?_
              · rfl
              rw[HRF.out]
              exact⟨⟨_,_,rfl,HP.out.2.2.1,HP.out.2.2.2⟩,HP.out.2.1⟩
theorem mixP_all (l:List Rule):∀N,MixP l N
  | 0=>fun n path W vl vp va vk p q s hN=>absurd hN (Nat.not_lt_zero _)
  | N+1=>mixed_step l N (mixP_all l N)
theorem mixed_any (l:List Rule) (n:Node) (path:List Bytes) (W:World) (vl vp va vk:Value) {p q s:Nat→Prop} (hc:cntN n≤1048576) (hp:path.length+nsz n≤4194304) (hl:Rep W q vl (rulesD l)) (hvp:Rep W s vp (strsD path)) (ha:Rep W p va (attrsD n.attrs)) (hk:Rep W p vk (nodesD n.kids)):
    Calls Tryz.prog 8 #[vl,.agg #[.int .i64 n.kind,.string (bs n.name),.string (bs n.text),va,vk],vp] W fun e w'=>RetM W (mixN l n path) e w'∧Ext W w':=
  mixP_all l (nsz n+1) n path W vl vp va vk p q s (Nat.lt_succ_self _) hc hp hl hvp ha hk
end Go.Proofs.YtebhipeeogoagaaGreatDoor
