/-
 Laws drawn from elder texts. Helper lemmas;no statement of the seat is proved here.
-/
import Derived.Test.YtngmgjodcnknoaaGreatDoorU12
namespace Go.Proofs.YtngmgjodcnknoaaGreatDoor
open Go.RowKit
set_option maxHeartbeats 32000000
set_option maxRecDepth 100000
set_option linter.unusedVariables false
set_option linter.unusedSimpArgs false
theorem Rep.ins {α:Type} {f:α→List DV} {z:Nat} (hz:∀x,(f x).length=z) {wz W:World} {p:Nat→Prop} {k:Nat} {e:TypeId} {v:Value} {us xs:List Value} {L:List α} {x:α}
  (hreps:Reps wz p us (L.flatMap f)) (hx:Reps wz p xs (f x)) (hS:Ext wz W)
  (hrow:W.ownsRow wz.heap.size e z v (k+1+(L.length - k)) (us.take (k*z)++xs++us.drop (k*z))):
  Rep W (fun b=>p b∨wz.heap.size≤b) v (.s z ((insAt L k x).flatMap f)):=by
 have hall:Reps wz p (us.take (k*z)++xs++us.drop (k*z)) ((insAt L k x).flatMap f):=by
  unfold insAt
  rw[List.flatMap_append,List.flatMap_cons,←flat_take f z hz,←flat_drop f z hz,←List.append_assoc]
  exact((hreps.take _).append hx).append (hreps.drop _)
 refine Own.rep (p:=p) (base:=wz.heap.size) (e:=e) (n:=k+1+(L.length - k)) ⟨_,hrow,(hall.lt.ext hS).ok fun b hb=>⟨hb.1,?_,Nat.lt_of_lt_of_le hb.2 hS.size⟩⟩
 intro e1
 rcases hrow.2 with⟨_,hn⟩ | ⟨g,cap,cur,rfl,hg,_⟩
 ·
  omega
 ·
  have:b=g:=Option.some.inj e1
  omega
theorem res_node3 {fn:Func} {t u v':Tmp} {T:TypeId} (h:fn.results= #[.cell t T,.tmp u,.tmp v']) (tmps:Array Value) (P:Program) (w:World) (ad:Addr) {v:Value} (ha:tmps.getD t undef= .pointer (some ad)) (hl:(loadVar T ad).run P w= .ok v w):
  (results fn tmps).run P w= .ok (.tuple #[v,tmps.getD u undef,tmps.getD v' undef]) w:=by
 have ha':tmps[t]?.getD undef= .pointer (some ad):=by simpa using ha
 simp[results,h,ha',asAddr,hl]
section
variable {P:Program} {ops:Array Oper} {Q:Exit→Act→World→Prop} {S:World→Prop} {fuel:Nat} {listed:Array Bool} {a:Act} {w:World}
theorem put_same (a:Act) (d:Nat) (v:Value) (h:d< a.tmps.size):(a.put (some d) v).eval (.tmp d)=v:=by
 simp[Act.put,Act.eval,h]
theorem put_ne (a:Act) (d j:Nat) (v:Value) (h:d≠j):(a.put (some d) v).eval (.tmp j)=a.eval (.tmp j):=Act.eval_put (fun e he=>by cases he;intro k;cases k;exact h rfl)
theorem put_size (a:Act) (d:Nat) (v:Value):(a.put (some d) v).tmps.size=a.tmps.size:=by simp[Act.put]
theorem put_swap (a:Act) (d e:Nat) (v u:Value) (h:d≠e):(a.put (some d) v).put (some e) u=(a.put (some e) u).put (some d) v:=Act.put_comm a v u fun k hk=>by cases hk;intro j;cases j;exact h rfl
theorem wanted_none {o:Oper} (h:o.guard=none) (y:Nat→Option Bool):Region.wanted o y=true:=by unfold Region.wanted;rw[h]
theorem rg_row (A C B D:Nat) (dA dC dB dD tB tX:Tmp) {oA oB oC oD:Oper} (SL EL:TypeId) (i0:TypeInfo) (zero:Value) (z bytes:Nat)
  (hA:ops[A]? =some oA) (hC:ops[C]? =some oC) (hB:ops[B]? =some oB) (hD:ops[D]? =some oD)
  (ht:P.underlying SL=some (.slice EL)) (hi:P.info? EL=some i0) (hz:i0.zero=some zero) (hsize:i0.size=z) (hby:i0.bytes=bytes) (hzs:zero.cells.size=z) (hsz:0< z)
  (X sv:Value) (xs news:List Value) (m:Nat) (hX:a.eval (.tmp tX)=X) (hV:a.eval (.tmp tB)=sv) (hsrc:Src w z sv m news) (h1:∀u∈news,u.oneCell'=true) (hx1:∀u∈xs,u.oneCell'=true) (hxl:xs.length=z)
  (hb:m≤16777216) (hb2:bytes≤4096) (hS:∀w',Ext w w'→S w')
  (hrA:∀(ev:Operand→Value) (W:World),(execOp ev oA).run P W= .ok (.value (.slice (some ⟨W.heap.size,0,none⟩) 0 0)) (W.alloc (.cells #[] EL)))
  (hrC:∀(ev:Operand→Value) (W:World),(∀v,ev (.const v)=v)→ev (.tmp tX)=X→(execOp ev oC).run P W= .ok (.value (.slice (some ⟨W.heap.size,0,none⟩) 1 1)) (W.alloc (.cells xs.toArray EL)))
  (h:∀(g1 g2:Nat) (v2 v3:Value) (w':World),Ext w w'→w'.ownsRow w.heap.size EL z v3 (m+1) (news++xs)→S w'→
   wpAnyH P .any ops Q S fuel ((((listed.setIfInBounds A true).setIfInBounds C true).setIfInBounds B true).setIfInBounds D true)
    ((((a.put (some dA) (.slice (some ⟨g1,0,none⟩) 0 0)).put (some dC) (.slice (some ⟨g2,0,none⟩) 1 1)).put (some dB) v2).put (some dD) v3) w')
  (hr0:Region.ready .any ops listed= [A,C]:=by kernel_rfl) (hr1:Region.ready .any ops (listed.setIfInBounds A true)= [B,C]:=by kernel_rfl) (hr2:Region.ready .any ops ((listed.setIfInBounds A true).setIfInBounds B true)= [C]:=by kernel_rfl)
  (hr3:Region.ready .any ops (listed.setIfInBounds C true)= [A]:=by kernel_rfl) (hr4:Region.ready .any ops ((listed.setIfInBounds A true).setIfInBounds C true)= [B]:=by kernel_rfl) (hr5:Region.ready .any ops (((listed.setIfInBounds A true).setIfInBounds C true).setIfInBounds B true)= [D]:=by kernel_rfl)
  (edA:oA.dst=some dA:=by rfl) (edC:oC.dst=some dC:=by rfl) (edB:oB.dst=some dB:=by rfl) (edD:oD.dst=some dD:=by rfl) (gA:oA.guard=none:=by rfl) (gC:oC.guard=none:=by rfl) (gB:oB.guard=none:=by rfl) (gD:oD.guard=none:=by rfl)
  (opB:oB.op= .call {callee:= .builtin .append,args:= #[.tmp dA,.tmp tB],argTypes:= #[SL,SL]}:=by rfl) (opD:oD.op= .call {callee:= .builtin .append,args:= #[.tmp dB,.tmp dC],argTypes:= #[SL,SL]}:=by rfl)
  (hne:(decide (A≠C) && decide (B≠C) && decide (dA≠tB) && decide (dC≠tB) && decide (dA≠tX) && decide (dB≠tX) && decide (dA≠dC) && decide (dA≠dB) && decide (dB≠dC) && decide (dA< a.tmps.size) && decide (dB< a.tmps.size) && decide (dC< a.tmps.size))=true:=by rfl):
  wpAnyH P .any ops Q S (fuel+1+1+1+1) listed a w:=by
 simp only[Bool.and_eq_true,decide_eq_true_eq]at hne
 obtain⟨⟨⟨⟨⟨⟨⟨⟨⟨⟨⟨nAC,nBC⟩,n1⟩,n2⟩,n3⟩,n4⟩,n5⟩,n6⟩,n7⟩,sA⟩,sB⟩,sC⟩:=hne
 have hbm:(m+1)*bytes≤140737488355328:=Nat.le_trans (Nat.mul_le_mul (Nat.succ_le_succ hb) hb2) kD
 have hbm0:(0+m)*bytes≤140737488355328:=Nat.le_trans (Nat.mul_le_mul_right _ kA) hbm
 -- D, behind all three
 have fin:∀(g1 g2:Nat) (v2:Value) (w4:World),Ext w w4→w4.ownsRow w.heap.size EL z v2 m news→w4.heap[g2]? =some (.cells xs.toArray EL (0,0))→
   wpAnyH P .any ops Q S (fuel+1) (((listed.setIfInBounds A true).setIfInBounds C true).setIfInBounds B true) (((a.put (some dA) (.slice (some ⟨g1,0,none⟩) 0 0)).put (some dC) (.slice (some ⟨g2,0,none⟩) 1 1)).put (some dB) v2) w4:=by
  intro g1 g2 v2 w4 hE4 hown hg2
  refine rg_one D hr5 ?_
  refine tk_src D (some dD) hD edD (wanted_none gD _) (.tmp dB) (.tmp dC) SL opD w.heap.size EL i0 zero z bytes ht hi hz hsize hby hzs hsz v2 m news ?_ hown (.slice (some ⟨g2,0,none⟩) 1 1) 1 xs ?_ (by have:=Src.block (z:=z) (m:=1) (c:=1) hg2 (by simp[hxl]);simpa using this) hx1 kC hbm hE4.size ?_
  ·
   rw[put_same _ _ _ (by rw[put_size,put_size];exact sB)]
  ·
   rw[put_ne _ _ _ _ n7,put_same _ _ _ (by rw[put_size];exact sC)]
  ·
   intro v3 w5 hr hg _
   have hE5:Ext w w5:=sx_grown hE4 hown hg
   exact⟨hS _ hE5,h g1 g2 v2 v3 w5 hE5 hr (hS _ hE5)⟩
 -- B, behind A; whether C has come up or not
 have stepB:∀(g1:Nat) (a':Act) (w3:World) (K:Act→World→Prop),Ext w w3→w3.heap[g1]? =some (.cells #[] EL (0,0))→w.heap.size≤g1→a'.eval (.tmp dA)= .slice (some ⟨g1,0,none⟩) 0 0→a'.eval (.tmp tB)=sv→
   (∀(v2:Value) (w4:World),w4.ownsRow w.heap.size EL z v2 m news→w3.grownBy w4 (some g1)→Ext w w4→K (a'.put (some dB) v2) w4)→wpOp P ops Q B K a' w3:=by
  intro g1 a' w3 K hE3 hg1 hge e1 e2 hK
  have hown0:w3.ownsRow w.heap.size EL z (.slice (some ⟨g1,0,none⟩) 0 0) 0 []:=own_empty' hge hg1
  refine tk_src B (some dB) hB edB (wanted_none gB _) (.tmp dA) (.tmp tB) SL opB w.heap.size EL i0 zero z bytes ht hi hz hsize hby hzs hsz _ 0 [] e1 hown0 sv m news e2 (hsrc.ext hE3) h1 kC hbm0 hE3.size ?_
  intro v2 w4 hr hg _
  rw[Nat.zero_add,List.nil_append]at hr
  exact hK v2 w4 hr hg (sx_grown hE3 hown0 hg)
 refine rg_two A C hr0 ?_ ?_
 ·
  refine tk_new A (some dA) (.cells #[] EL) (fun n=> .slice (some ⟨n,0,none⟩) 0 0) hA edA (wanted_none gA _) (hrA _ _) ?_
  intro g1 w1 eg1 hx hsz1 hg1
  refine⟨hS _ hx,?_⟩
  refine rg_two B C hr1 ?_ ?_
  ·
   refine stepB g1 _ w1 _ hx hg1 kA (by rw[put_same _ _ _ sA]) (by rw[put_ne _ _ _ _ n1];exact hV) ?_
   intro v2 w2 hr hg hE2
   refine⟨hS _ hE2,rg_one C hr2 ?_⟩
   refine tk_new C (some dC) (.cells xs.toArray EL) (fun n=> .slice (some ⟨n,0,none⟩) 1 1) hC edC (wanted_none gC _) (hrC _ _ (fun _=>rfl) (by rw[put_ne _ _ _ _ n4,put_ne _ _ _ _ n3];exact hX)) ?_
   intro g2 w3 eg2 hx3 _ hg2
   refine⟨hS _ (hE2.trans hx3),?_⟩
   rw[put_swap _ dB dC _ _ n7,Array.setIfInBounds_comm _ _ nBC]
   exact fin g1 g2 v2 w3 (hE2.trans hx3) (rows_ext hr hx3) hg2
  ·
   refine tk_new C (some dC) (.cells xs.toArray EL) (fun n=> .slice (some ⟨n,0,none⟩) 1 1) hC edC (wanted_none gC _) (hrC _ _ (fun _=>rfl) (by rw[put_ne _ _ _ _ n3];exact hX)) ?_
   intro g2 w2 eg2 hx2 _ hg2
   refine⟨hS _ (hx.trans hx2),rg_one B hr4 ?_⟩
   refine stepB g1 _ w2 _ (hx.trans hx2) ((Below.block hx2 g1 (blk_lt hg1)).trans hg1) kA (by rw[put_ne _ _ _ _ n5.symm,put_same _ _ _ sA]) (by rw[put_ne _ _ _ _ n2,put_ne _ _ _ _ n1];exact hV) ?_
   intro v2 w3 hr hg hE3
   exact⟨hS _ hE3,fin g1 g2 v2 w3 hE3 hr ((hg.block g2 (blk_lt hg2) (by intro e;cases e;omega)).trans hg2)⟩
 ·
  refine tk_new C (some dC) (.cells xs.toArray EL) (fun n=> .slice (some ⟨n,0,none⟩) 1 1) hC edC (wanted_none gC _) (hrC _ _ (fun _=>rfl) hX) ?_
  intro g2 w1 eg2 hx _ hg2
  refine⟨hS _ hx,rg_one A hr3 ?_⟩
  refine tk_new A (some dA) (.cells #[] EL) (fun n=> .slice (some ⟨n,0,none⟩) 0 0) hA edA (wanted_none gA _) (hrA _ _) ?_
  intro g1 w2 eg1 hx2 _ hg1
  have hE2:=hx.trans hx2
  rw[put_swap _ dC dA _ _ n5.symm,Array.setIfInBounds_comm _ _ nAC.symm]
  refine⟨hS _ hE2,rg_one B hr4 ?_⟩
  have hg2':=(Below.block hx2 g2 (blk_lt hg2)).trans hg2
  have hlt:=blk_lt hg2
  have hws:=hx.size
  refine stepB g1 _ w2 _ hE2 hg1 kA (by rw[put_ne _ _ _ _ n5.symm,put_same _ _ _ sA]) (by rw[put_ne _ _ _ _ n2,put_ne _ _ _ _ n1];exact hV) ?_
  intro v2 w3 hr hg hE3
  exact⟨hS _ hE3,fin g1 g2 v2 w3 hE3 hr ((hg.block g2 (blk_lt hg2') (by intro e;cases e;omega)).trans hg2')⟩
end
theorem dropW_nil {p:UInt8→Bool}:∀(l:List UInt8),l.dropWhile p= []↔∀c∈l,p c=true
 | []=>by simp
 | c::l=>by
  rw[List.dropWhile_cons]
  by_cases h:p c=true
  ·
   rw[if_pos h,dropW_nil l];simp[h]
  ·
   rw[if_neg h];simp[h]
theorem dropW_head {p:UInt8→Bool}:∀(l:List UInt8) (c:UInt8) (r:List UInt8),l.dropWhile p=c::r→p c=false
 | [],_,_,h=>by cases h
 | d::l,c,r,h=>by
  rw[List.dropWhile_cons]at h
  by_cases hd:p d=true
  ·
   rw[if_pos hd]at h;exact dropW_head l c r h
  ·
   rw[if_neg hd]at h;injection h with h1 _;subst h1;simpa using hd
theorem trimS_nil' (l cs:List UInt8):Lib.trimS l cs= []↔∀c∈l,cs.contains c=true:=by
 unfold Lib.trimS Lib.trimLeftS Lib.trimRightS
 rw[dropW_nil]
 constructor
 ·
  intro h
  cases hx:l.reverse.dropWhile (cs.contains ·)with
  | nil=>
   rw[dropW_nil]at hx
   intro c hc;exact hx c (by simpa using hc)
  | cons c r=>
   have:=dropW_head _ _ _ hx
   rw[hx]at h
   have:=h c kI
   simp_all
 ·
  intro h c hc
  have:=List.dropWhile_sublist (cs.contains ·) (l:=l.reverse)
  have hm:=this.mem (List.mem_reverse.1 hc)
  exact h c (List.mem_reverse.1 hm)
def blankI (n:Int):Bool:=n==9 || n==10 || n==13 || n==32
def blkB (c:UInt8):Bool:=([9,10,13,32]:List UInt8).contains c
theorem blk_wrap (c:UInt8):blankI (wrap32 (c.toNat:Int))=blkB c:=by
 have:∀n:Fin 256,blankI (wrap32 (((UInt8.ofNat n.val).toNat:Nat):Int))=blkB (UInt8.ofNat n.val):=by decide+kernel
 have h:=this ⟨c.toNat,c.toNat_lt⟩
 simp only[UInt8.ofNat_toNat]at h
 exact h
theorem rblank_any (n:Int) (w:World):Calls Tryz.prog 110 #[.int .i32 n] w fun e w'=>e= .returned (.bool (blankI n))∧w=w':=by
 by_cases h1:n=9
 ·
  subst h1;go_enter Tryz.func110,Tryz.ntmps110;go_wp2;go_ret;exact⟨rfl,rfl⟩
 ·
  have e1:(n==9)=false:=by simpa using h1
  by_cases h2:n=10
  ·
   subst h2;go_enter Tryz.func110,Tryz.ntmps110;go_wp2;go_ret;exact⟨rfl,rfl⟩
  ·
   have e2:(n==10)=false:=by simpa using h2
   by_cases h3:n=13
   ·
    subst h3;go_enter Tryz.func110,Tryz.ntmps110;go_wp2;go_ret;exact⟨rfl,rfl⟩
   ·
    have e3:(n==13)=false:=by simpa using h3
    have hr:blankI n=(n==32):=by unfold blankI;rw[e1,e2,e3];rfl
    have HR:=Lh hr
    clear hr h1 h2 h3
    go_enter Tryz.func110,Tryz.ntmps110
    go_wp2
    go_ret
    exact⟨by rw[HR.out];rfl,rfl⟩
theorem trim_none (l:List UInt8) (h:∀c∈l,blkB c=true):Lib.trimS l [9,10,13,32]= []:=(trimS_nil' l _).2 h
theorem trim_ends (l:List UInt8) (a b:Nat) (hab:a< b) (hb:b≤l.length) (h1:∀(j:Nat) c,j< a→l[j]? =some c→blkB c=true) (h2:∀c,l[a]? =some c→blkB c=false)
  (h3:∀(j:Nat) c,b≤j→l[j]? =some c→blkB c=true) (h4:∀c,l[b - 1]? =some c→blkB c=false):Lib.trimS l [9,10,13,32]=(l.drop a).take (b - a):=by
 unfold Lib.trimS
 rw[Lib.trimRightS_take l _ b hb h3 (fun c _ hc=>h4 c hc),Lib.trimLeftS_drop (l.take b) _ a (by rw[List.length_take];omega)]
 ·
  rw[List.drop_take]
 ·
  intro j c hj hc
  rw[List.getElem?_take,if_pos kA]at hc
  exact h1 j c hj hc
 ·
  intro c hc
  rw[List.getElem?_take,if_pos kA]at hc
  exact h2 c hc
theorem bstr_at (s:ByteArray) (k:Nat) (h:k< s.size):s.data.toList[k]? =some s[k]:=by
 rw[List.getElem?_eq_getElem kJ];rfl
theorem bstr_len (s:ByteArray):s.data.toList.length=s.size:=by simp
theorem rtrim_any (s:ByteArray) (w:World) (hs:s.size≤4294967296):
  Calls Tryz.prog 113 #[.string s] w fun e w'=>e= .returned (.string (bs (Lib.trimS s.data.toList [9,10,13,32])))∧w=w':=by
 go_enter Tryz.func113,Tryz.ntmps113
 go_wp2
 go_loop [3] (fun i=>∃k:Nat,k≤s.size∧i= .int .i64 k∧Hid (∀(j:Nat) c,j< k→s.data.toList[j]? =some c→blkB c=true)) (fun i=>s.size - (intOf i).toNat)
 case atStart=>exact⟨0,Nat.zero_le _,rfl,fun j c hj=>by omega⟩
 case round=>
  obtain⟨a,ha,rfl,H1⟩:=hrel
  by_cases hlt:a< s.size
  ·
   cases hb:blkB s[a]with
   | true=>
    have HB:Hid (blankI (wrap32 (s[a].toNat:Int))=true):=by rw[blk_wrap];exact hb
    have HB2:=Lh hb
    clear hb
    go_wp2_with (go_at_call 110;refine(rblank_any _ _).mono ?_;rw[HB.out];rintro e w' ⟨rfl,rfl⟩)
    go_round
    case rel=>
     refine⟨a+1,by omega,by go_num,fun j c hj hc=> ?_⟩
     by_cases hja:j=a
     ·
      subst hja
      rw[bstr_at s j hlt]at hc
      injection hc with hc
      rw[←hc];exact HB2.out
     ·
      exact H1.out j c kA hc
    case measure=>simp[intOf];omega
   | false=>
    have HB:Hid (blankI (wrap32 (s[a].toNat:Int))=false):=by rw[blk_wrap];exact hb
    have H2:Hid (∀c,s.data.toList[a]? =some c→blkB c=false):=fun c hc=>by
     rw[bstr_at s a hlt]at hc;injection hc with hc;rw[←hc];exact hb
    clear hb
    go_wp2_with (go_at_call 110;refine(rblank_any _ _).mono ?_;rw[HB.out];rintro e w' ⟨rfl,rfl⟩)
    go_loop [4] (fun i=>∃k:Nat,k≤s.size∧a< k∧i= .int .i64 k∧Hid (∀(j:Nat) c,k≤j→s.data.toList[j]? =some c→blkB c=true)) (fun i=>(intOf i).toNat)
    case atStart=>exact⟨s.size,Nat.le_refl _,hlt,rfl,fun j c hj hc=>by rw[List.getElem?_eq_none (by rw[bstr_len];exact hj)]at hc;cases hc⟩
    case round=>
     obtain⟨b,hb1,hb2,rfl,H3⟩:=hrel
     obtain⟨m,rfl⟩:∃m,b=m+1:=⟨b - 1,by omega⟩
     have hm:m< s.size:=by omega
     have hidx:IntKind.i64.wrap (((m+1:Nat):Int) - 1)=(m:Int):=by rw[show(((m+1:Nat):Int) - 1)=(m:Int) by omega];exact IntWalk.i64_in _ kA
     have hd1:decide ((a:Int)< ((m+1:Nat):Int))=true:=by simp;omega
     cases hb:blkB s[m]with
     | true=>
      have HB:Hid (blankI (wrap32 (s[m].toNat:Int))=true):=by rw[blk_wrap];exact hb
      have HB2:=Lh hb
      have ham:a< m:=by
       rcases Nat.lt_or_eq_of_le (Nat.le_of_lt_succ hb2)with h | h
       ·
        exact h
       ·
        exfalso
        subst h
        have:=H2.out _ (bstr_at s a hm)
        rw[hb]at this;cases this
      clear hb
      go_wp2_with (go_at_call 110;refine(rblank_any _ _).mono ?_;rw[HB.out];rintro e w' ⟨rfl,rfl⟩)
      go_round
      case rel=>
       refine⟨m,by omega,ham,by go_num,fun j c hj hc=> ?_⟩
       by_cases hjm:j=m
       ·
        subst hjm
        rw[bstr_at s j hm]at hc
        injection hc with hc
        rw[←hc];exact HB2.out
       ·
        exact H3.out j c kA hc
      case measure=>simp[intOf]
     | false=>
      have HB:Hid (blankI (wrap32 (s[m].toNat:Int))=false):=by rw[blk_wrap];exact hb
      have HR:Hid (Lib.trimS s.data.toList [9,10,13,32]=(s.data.toList.drop a).take (m+1 - a)):=by
       refine trim_ends _ a (m+1) hb2 (by rw[bstr_len];exact hb1) H1.out H2.out H3.out fun c hc=> ?_
       rw[Nat.add_sub_cancel,bstr_at s m hm]at hc
       injection hc with hc
       rw[←hc];exact hb
      clear hb
      go_wp2_with (go_at_call 110;refine(rblank_any _ _).mono ?_;rw[HB.out];rintro e w' ⟨rfl,rfl⟩)
      go_ret
      refine⟨?_,rfl⟩
      rw[HR.out,←bs_extract,←str_ext];rfl
  ·
   have e:a=s.size:=by omega
   have HR:Hid (Lib.trimS s.data.toList [9,10,13,32]= []):=by
    refine trim_none _ fun c hc=> ?_
    obtain⟨j,hj⟩:=List.getElem?_of_mem hc
    have hjl:j< s.data.toList.length:=(List.getElem?_eq_some_iff.1 hj).1
    exact H1.out j c (by rw[bstr_len]at hjl;omega) hj
   have e2:decide ((a:Int)< (s.size:Int))=false:=by simp;omega
   clear e
   have HE:Hid (s.extract a s.size=bs []):=by
    refine Lh ?_
    have:=bstr_len s
    rw[str_ext s,bs_extract,List.take_eq_nil_of_eq_nil (List.drop_eq_nil_of_le kA)]
   go_wp2
   go_loop [4] (fun i=>i= .int .i64 s.size) (fun _=>0)
   case atStart=>rfl
   case round=>
    obtain rfl:=hrel
    go_wp2
    go_ret
    refine⟨?_,rfl⟩
    rw[HR.out,←HE.out];rfl
def Exc (g:Nat) (a w:World):Prop:=a.heap.size≤w.heap.size∧∀b,b≠g→b< a.heap.size→w.heap[b]? =a.heap[b]?
theorem Exc.refl (g:Nat) (a:World):Exc g a a:=⟨Nat.le_refl _,fun _ _ _=>rfl⟩
theorem Exc.ext {g:Nat} {a w w':World} (h:Exc g a w) (hB:Ext w w'):Exc g a w':=⟨Nat.le_trans h.1 hB.size,fun b h1 h2=>(Below.block hB b (Nat.lt_of_lt_of_le h2 h.1)).trans (h.2 b h1 h2)⟩
theorem Exc.set {g:Nat} {a w:World} (h:Exc g a w) {p:Addr} (hp:p.block=g) (u:Value):Exc g a (w.setCell p u):=⟨by simpa using h.1,fun b h1 h2=>by rw[Below.heap_setCell _ _ _ _ kA];exact h.2 b h1 h2⟩
theorem Rep.exc {g:Nat} {a w:World} {p:Nat→Prop} {v:Value} {d:DV} (h:Rep a p v d) (hp:∀b,p b→b≠g) (hm:Exc g a w):Rep w p v d:=h.kept fun b hb hlt=>hm.2 b (hp b hb) hlt
theorem B5.exc {g:Nat} {a w:World} {b:Nat} {n:Node} {xa xk:Value} (h:B5 a b n xa xk) (hb:b≠g) (hm:Exc g a w):B5 w b n xa xk:=h.block hm.1 (hm.2 b hb h.lt)
def trimB (s:Bytes):Bytes:=Lib.trimS s [9,10,13,32]
mutual
def normN (l:List Rule):Node→List Bytes→Int→Node×Int×Int
 | .mk _ nm _ la ks,path,first=>if frontS l path=true then(.mk 1 nm [] (sortA [] la) (contL ks),0,0)else normL l ks nm (sortA [] la) path first [] [] (first+1)
def normL (l:List Rule):List Node→Bytes→List Attr→List Bytes→Int→List Step→List Node→Int→Node×Int×Int
 | [],nm,la,_,_,_,out,_=>(.mk 1 nm [] la out,0,0)
 | k::r,nm,la,path,first,steps,out,at'=>
  if k.kind=2∧trimB k.text≠ []then(zeroN,24,first)
  else if k.kind≠1 then normL l r nm la path first steps out at'
  else if findS (path++ [k.name]) l 0< 0 then(zeroN,24,at')
  else if(normN l k (path++ [k.name]) at').2.1≠0 then(zeroN,(normN l k (path++ [k.name]) at').2)
  else match keyS (normN l k (path++ [k.name]) at').1 (l.getD (findS (path++ [k.name]) l 0).toNat noRule).keys with
   | none=>(zeroN,22,at')
   | some key=>if(steps.any fun s=>stepB s ⟨k.name,key⟩)=true then(zeroN,23,at')
    else normL l r nm la path first (insAt steps (steps.countP fun s=>aheadB s ⟨k.name,key⟩) ⟨k.name,key⟩) (insAt out (steps.countP fun s=>aheadB s ⟨k.name,key⟩) (normN l k (path++ [k.name]) at').1) (at'+elemsN k)
end
theorem normN_eq (l:List Rule) (a:Node) (path:List Bytes) (first:Int):normN l a path first=if frontS l path=true then(.mk 1 a.name [] (sortA [] a.attrs) (contL a.kids),0,0)else normL l a.kids a.name (sortA [] a.attrs) path first [] [] (first+1):=by
 cases a;rw[normN];rfl
theorem cnt_zeroN:cntN zeroN=1:=rfl
mutual
theorem cnt_normN (l:List Rule):∀(a:Node) (path:List Bytes) (first:Int),cntN (normN l a path first).1≤cntN a
 | .mk k nm tx la ks,path,first=>by
  have h1:=cnt_normL l ks nm (sortA [] la) path first [] [] (first+1)
  have h2:=cntA_sort la []
  have h3:=cnt_contL ks
  rw[normN]
  split
  ·
   simp only[cntN,cntA,List.length_nil]at*;omega
  ·
   rw[cntN];simp only[cntA,cntL]at*;omega
theorem cnt_normL (l:List Rule):∀(ks:List Node) (nm:Bytes) (la:List Attr) (path:List Bytes) (first:Int) (steps:List Step) (out:List Node) (at':Int),cntN (normL l ks nm la path first steps out at').1≤1+nm.length+cntA la+cntL out+cntL ks
 | [],nm,la,path,first,steps,out,at'=>by rw[normL];simp only[cntN,cntL,List.length_nil];omega
 | k::r,nm,la,path,first,steps,out,at'=>by
  have hz:=cnt_zeroN
  have hk:=cntN_pos k
  rw[normL,cntL]
  split
  ·
   simp only;omega
  ·
   split
   ·
    have:=cnt_normL l r nm la path first steps out at';omega
   ·
    split
    ·
     simp only;omega
    ·
     split
     ·
      simp only;omega
     ·
      split
      ·
       simp only;omega
      ·
       split
       ·
        simp only;omega
       ·
        rename_i key _ _
        have h1:=cnt_normL l r nm la path first (insAt steps (steps.countP fun s=>aheadB s ⟨k.name,key⟩) ⟨k.name,key⟩) (insAt out (steps.countP fun s=>aheadB s ⟨k.name,key⟩) (normN l k (path++ [k.name]) at').1) (at'+elemsN k)
        rw[cntL_ins]at h1
        have h2:=cnt_normN l k (path++ [k.name]) at'
        omega
end
theorem store_nodeS {W:World} {b:Nat} {n m:Node} {xa xk:Value} (h:B5 W b n xa xk) (ya yk:Option Addr) (na ca nk ck:Nat):
  (Instr.storeAt 66 (.pointer (some ⟨b,0,none⟩)) (.agg #[.int .i64 m.kind,.string (bs m.name),.string (bs m.text),.slice ya na ca,.slice yk nk ck])).run Tryz.prog W= .ok () (st5 W b m (.slice ya na ca) (.slice yk nk ck)):=by
 have c0:=h.c0;have c1:=h.c1;have c2:=h.c2;have c3:=h.c3;have c4:=h.c4
 have f0:=h.f0;have f1:=h.f1;have f2:=h.f2;have f3:=h.f3;have f4:=h.f4
 unfold st5
 go_simp
theorem exec_store {P:Program} {ev:Operand→Value} {oi:Oper} {t:TypeId} {x y:Operand} {W W':World} (ho:oi.op= .store t x y) (h:(Instr.storeAt t (ev x) (ev y)).run P W= .ok () W'):
  (execOp ev oi).run P W= .ok .skip W':=by
 unfold execOp
 simp only[ho,Sem.run_bind,h,Result.andThen_ok,Sem.run_pure]
theorem store_slice {P:Program} {W:World} {b o:Nat} {u:Value} (t:TypeId) (hs:∀W,(sizeOf t).run P W= .ok 1 W) (hc:W.cell? ⟨b,o,none⟩=some u) (hf:W.frozen? ⟨b,o,none⟩=false) (a:Option Addr) (n c:Nat):
  (Instr.storeAt t (.pointer (some ⟨b,o,none⟩)) (.slice a n c)).run P W= .ok () (W.setCell ⟨b,o,none⟩ (.slice a n c)):=by
 go_simp
def RetNC (p:Nat→Prop) (r:Node×Int×Int) (e:Ending) (w:World):Prop:=
 ∃xa xk,e= .returned (.tuple #[.agg #[.int .i64 r.1.kind,.string (bs r.1.name),.string (bs r.1.text),xa,xk],.int .i64 r.2.1,.int .i64 r.2.2])∧Rep w p xa (attrsD r.1.attrs)∧Rep w p xk (nodesD r.1.kids)
theorem s1Node:∀W,(sizeOf 23).run Tryz.prog W= .ok 1 W:=fun W=>by go_simp
theorem szNode:∀W,(sizeOf (Tryz.prog.elem 23)).run Tryz.prog W= .ok 5 W:=fun W=>by rw[show Tryz.prog.elem 23=66 by kernel_rfl];go_simp
theorem unNode:Tryz.prog.underlying 23=some (.slice (Tryz.prog.elem 23)):=by kernel_rfl
theorem szStep:∀W,(sizeOf (Tryz.prog.elem 134)).run Tryz.prog W= .ok 2 W:=fun W=>by rw[show Tryz.prog.elem 134=101 by kernel_rfl];go_simp
theorem unStep:Tryz.prog.underlying 134=some (.slice (Tryz.prog.elem 134)):=by kernel_rfl
theorem szStr:∀W,(sizeOf (Tryz.prog.elem 27)).run Tryz.prog W= .ok 1 W:=fun W=>by rw[show Tryz.prog.elem 27=9 by kernel_rfl];go_simp
theorem unStr:Tryz.prog.underlying 27=some (.slice (Tryz.prog.elem 27)):=by kernel_rfl
def outN (nm:Bytes):Node:= .mk 1 nm [] [] []
theorem one_str (x:Bytes):∀e∈([strD x]:List DV),e.one=true:=by intro e he;simp at he;subst he;rfl
theorem own_form {w:World} {base z n:Nat} {e:TypeId} {v:Value} {us:List Value} (h:w.ownsRow base e z v n us):∃o c,v= .slice o n c:=by
 rcases h.2 with⟨rfl,rfl⟩ | ⟨g,cap,cur,rfl,_⟩
 ·
  exact⟨_,_,rfl⟩
 ·
  exact⟨_,_,rfl⟩
def NFact (l:List Rule) (a:Node) (path:List Bytes) (first:Int) (R:Node×Int×Int) (SA:List Attr) (w w2:World) (g11:Nat) (va vk xa:Value) (wr:World) (i:Nat) (at':Int) (steps:List Step) (outk:List Node) (dv ov:Value):Prop:=
 B5 wr w.heap.size a va vk∧B5 wr (w.heap.size+1) zeroN (.slice none 0 0) (.slice none 0 0)∧B5 wr g11 (outN a.name) xa ov∧Exc g11 w2 wr∧Rep wr (fun b=>w2.heap.size≤b) dv (stepsD steps)∧Rep wr (fun b=>w2.heap.size≤b) ov (nodesD outk)∧outk.length=steps.length∧
  cntL outk+cntL (a.kids.drop i)≤cntL a.kids∧normL l (a.kids.drop i) a.name SA path first steps outk at'=R
theorem NFact.ext {l:List Rule} {a:Node} {path:List Bytes} {first:Int} {R:Node×Int×Int} {SA:List Attr} {w w2:World} {g11:Nat} {va vk xa:Value} {wr W:World} {i:Nat} {at':Int} {steps:List Step} {outk:List Node} {dv ov:Value}
  (h:NFact l a path first R SA w w2 g11 va vk xa wr i at' steps outk dv ov) (hB:Ext wr W):NFact l a path first R SA w w2 g11 va vk xa W i at' steps outk dv ov:=
 ⟨h.1.ext hB,h.2.1.ext hB,h.2.2.1.ext hB,h.2.2.2.1.ext hB,h.2.2.2.2.1.ext hB,h.2.2.2.2.2.1.ext hB,h.2.2.2.2.2.2⟩
theorem NFact.skip {l:List Rule} {a:Node} {path:List Bytes} {first:Int} {R:Node×Int×Int} {SA:List Attr} {w w2:World} {g11:Nat} {va vk xa:Value} {wr:World} {i:Nat} {at':Int} {steps:List Step} {outk:List Node} {dv ov:Value}
  (h:NFact l a path first R SA w w2 g11 va vk xa wr i at' steps outk dv ov) (hi:i< a.kids.length) (hN:normL l (a.kids.drop (i+1)) a.name SA path first steps outk at'=R):NFact l a path first R SA w w2 g11 va vk xa wr (i+1) at' steps outk dv ov:=by
 obtain⟨h1,h2,h3,h4,h5,h6,h7,h8,h9⟩:=h
 have:=cntL_get a.kids i hi
 exact⟨h1,h2,h3,h4,h5,h6,h7,by omega,hN⟩
end Go.Proofs.YtngmgjodcnknoaaGreatDoor
