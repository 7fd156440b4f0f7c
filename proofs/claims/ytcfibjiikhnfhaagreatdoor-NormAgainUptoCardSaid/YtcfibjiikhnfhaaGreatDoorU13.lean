/-
 utf.Trim;rows of keyed children. Helper lemmas;no statement of the seat is proved here.
-/
import Derived.Test.YtcfibjiikhnfhaaGreatDoorU12
import Derived.Test.YtcfibjiikhnfhaaGreatDoorU10
import Derived.Shelf.Strings.SlTrimAscii
import Derived.Deep.DeepCutAuto
namespace Go.Proofs.YtcfibjiikhnfhaaGreatDoor
open Go.RowKit
set_option maxHeartbeats 32000000
set_option maxRecDepth 100000
set_option linter.unusedVariables false
set_option linter.unusedSimpArgs false
def Tryz.lays160_ren:Go.Shelf.Ren:=⟨fun | 119=>237 | 120=>233 | 137=>77 | 151=>213 | 152=>232 | 160=>132 | 197=>125 | 217=>121 | 224=>165 | 225=>164 | 227=>177 | 228=>212 | 231=>175 | 232=>176 | 233=>178 | 234=>179 | 235=>180 | 236=>181 | 260=>169 | 266=>163 | 271=>214 | n=>n,fun | 0=>0 | 3=>3 | 4=>4 | 5=>5 | 9=>9 | 21=>21 | 46=>158 | 105=>175 | 116=>237 | 117=>238 | 119=>189 | 124=>241 | 138=>191 | 139=>192 | n=>n,fun | 3=>1 | 4=>2 | n=>n⟩
theorem Tryz.lays160:Go.Proofs.Lays.n160 Tryz.prog Tryz.lays160_ren:={
 mixed:=by kernel_rfl
 f119:=Tryz.func237.trans (congrArg some (by kernel_rfl))
 f120:=Tryz.func233.trans (congrArg some (by kernel_rfl))
 f137:=Tryz.func77.trans (congrArg some (by kernel_rfl))
 f151:=Tryz.func213.trans (congrArg some (by kernel_rfl))
 f152:=Tryz.func232.trans (congrArg some (by kernel_rfl))
 f160:=Tryz.func132.trans (congrArg some (by kernel_rfl))
 f197:=Tryz.func125.trans (congrArg some (by kernel_rfl))
 f217:=Tryz.func121.trans (congrArg some (by kernel_rfl))
 f224:=Tryz.func165.trans (congrArg some (by kernel_rfl))
 f225:=Tryz.func164.trans (congrArg some (by kernel_rfl))
 f227:=Tryz.func177.trans (congrArg some (by kernel_rfl))
 f228:=Tryz.func212.trans (congrArg some (by kernel_rfl))
 f231:=Tryz.func175.trans (congrArg some (by kernel_rfl))
 f232:=Tryz.func176.trans (congrArg some (by kernel_rfl))
 f233:=Tryz.func178.trans (congrArg some (by kernel_rfl))
 f234:=Tryz.func179.trans (congrArg some (by kernel_rfl))
 f235:=Tryz.func180.trans (congrArg some (by kernel_rfl))
 f236:=Tryz.func181.trans (congrArg some (by kernel_rfl))
 f260:=Tryz.func169.trans (congrArg some (by kernel_rfl))
 f266:=Tryz.func163.trans (congrArg some (by kernel_rfl))
 f271:=Tryz.func214.trans (congrArg some (by kernel_rfl))
 t0:=by kernel_rfl
 a0:=fun w=>by first | exact Tryz.isAgg0 w | go_simp
 z0:=fun w=>by first | exact Tryz.sizeOf0 w | go_simp
 v0:=fun w=>by first | exact Tryz.zeroValue0 w | go_simp
 t3:=by kernel_rfl
 a3:=fun w=>by first | exact Tryz.isAgg3 w | go_simp
 z3:=fun w=>by first | exact Tryz.sizeOf3 w | go_simp
 v3:=fun w=>by first | exact Tryz.zeroValue3 w | go_simp
 t4:=by kernel_rfl
 a4:=fun w=>by first | exact Tryz.isAgg4 w | go_simp
 z4:=fun w=>by first | exact Tryz.sizeOf4 w | go_simp
 v4:=fun w=>by first | exact Tryz.zeroValue4 w | go_simp
 t5:=by kernel_rfl
 a5:=fun w=>by first | exact Tryz.isAgg5 w | go_simp
 z5:=fun w=>by first | exact Tryz.sizeOf5 w | go_simp
 v5:=fun w=>by first | exact Tryz.zeroValue5 w | go_simp
 t9:=by kernel_rfl
 a9:=fun w=>by first | exact Tryz.isAgg9 w | go_simp
 z9:=fun w=>by first | exact Tryz.sizeOf9 w | go_simp
 v9:=fun w=>by first | exact Tryz.zeroValue9 w | go_simp
 t21:=by kernel_rfl
 a21:=fun w=>by first | exact Tryz.isAgg21 w | go_simp
 z21:=fun w=>by first | exact Tryz.sizeOf21 w | go_simp
 v21:=fun w=>by first | exact Tryz.zeroValue21 w | go_simp
 t46:=by kernel_rfl
 a46:=fun w=>by first | exact Tryz.isAgg158 w | go_simp
 z46:=fun w=>by first | exact Tryz.sizeOf158 w | go_simp
 v46:=fun w=>by first | exact Tryz.zeroValue158 w | go_simp
 t105:=by kernel_rfl
 a105:=fun w=>by first | exact Tryz.isAgg175 w | go_simp
 z105:=fun w=>by first | exact Tryz.sizeOf175 w | go_simp
 v105:=fun w=>by first | exact Tryz.zeroValue175 w | go_simp
 t116:=by kernel_rfl
 a116:=fun w=>by first | exact Tryz.isAgg237 w | go_simp
 z116:=fun w=>by first | exact Tryz.sizeOf237 w | go_simp
 t117:=by kernel_rfl
 a117:=fun w=>by first | exact Tryz.isAgg238 w | go_simp
 z117:=fun w=>by first | exact Tryz.sizeOf238 w | go_simp
 v117:=fun w=>by first | exact Tryz.zeroValue238 w | go_simp
 t119:=by kernel_rfl
 a119:=fun w=>by first | exact Tryz.isAgg189 w | go_simp
 z119:=fun w=>by first | exact Tryz.sizeOf189 w | go_simp
 t124:=by kernel_rfl
 a124:=fun w=>by first | exact Tryz.isAgg241 w | go_simp
 z124:=fun w=>by first | exact Tryz.sizeOf241 w | go_simp
 v124:=fun w=>by first | exact Tryz.zeroValue241 w | go_simp
 t138:=by kernel_rfl
 a138:=fun w=>by first | exact Tryz.isAgg191 w | go_simp
 z138:=fun w=>by first | exact Tryz.sizeOf191 w | go_simp
 v138:=fun w=>by first | exact Tryz.zeroValue191 w | go_simp
 t139:=by kernel_rfl
 a139:=fun w=>by first | exact Tryz.isAgg192 w | go_simp
 z139:=fun w=>by first | exact Tryz.sizeOf192 w | go_simp
 v139:=fun w=>by first | exact Tryz.zeroValue192 w | go_simp
 g3:=by kernel_rfl
 g4:=by kernel_rfl}
theorem trim_any (s:Bytes) (w:World) (hs:s.length≤16777216):
  Calls Tryz.prog 90 #[.string (bs s)] w fun e w'=>e= .returned (.string (bs (trimB s)))∧Ext w w':=by
 have hcon:=Any.strings_Trim_laid Tryz.lays160 (by kernel_rfl) (bs s) ⟨#[9,10,13,32]⟩ w (by rw[bs_size];omega) (by decide) (ascii_of_all (by decide))
 rw[show(bs s).data.toList=s from by simp[bs]]at hcon
 change Calls Tryz.prog 132 _ _ (fun e w'=>e= .returned (.string (bs (trimB s)))∧Below w.heap.size w w')at hcon
 generalize bs (trimB s)=r at hcon⊢
 go_enter Tryz.func90,Tryz.ntmps90
 go_wp2_with (go_at_call 132;refine hcon.mono ?_;rintro e w' ⟨rfl,hB⟩)
 go_ret
 exact⟨rfl,hB⟩
def keyedC (x:Step×Node):List DV:=stepC x.1++nodeC x.2
def keyedsD (l:List (Step×Node)):DV:= .s 7 (l.flatMap keyedC)
theorem z_keyed (x:Step×Node):(keyedC x).length=7:=by unfold keyedC;rw[List.length_append,z_step,z_node]
theorem keyedC_eq (x:Step×Node):keyedC x= [strD x.1.n,strsD x.1.key,intD x.2.kind,strD x.2.name,strD x.2.text,attrsD x.2.attrs,nodesD x.2.kids]:=by unfold keyedC;rw[nodeC_eq];rfl
theorem keyed_at {w:World} {p:Nat→Prop} {a:Option Addr} {len cap:Nat} {l:List (Step×Node)} (h:Rep w p (.slice a len cap) (keyedsD l)) (i:Nat) (hi:i< l.length):
  ∃b off k x y,a=some ⟨b,off,none⟩∧b< w.heap.size∧p b∧w.cell? ⟨b,off+i*7,none⟩=some (.string (bs l[i].1.n))∧w.cell? ⟨b,off+i*7+1,none⟩=some k∧w.cell? ⟨b,off+i*7+2,none⟩=some (.int .i64 l[i].2.kind)∧w.cell? ⟨b,off+i*7+3,none⟩=some (.string (bs l[i].2.name))∧w.cell? ⟨b,off+i*7+4,none⟩=some (.string (bs l[i].2.text))∧
   w.cell? ⟨b,off+i*7+5,none⟩=some x∧w.cell? ⟨b,off+i*7+6,none⟩=some y∧Rep w p k (strsD l[i].1.key)∧Rep w p x (attrsD l[i].2.attrs)∧Rep w p y (nodesD l[i].2.kids):=by
 obtain⟨b,off,ha,hb,hp,hc⟩:=elem_at z_keyed h (by omega) i hi
 rw[keyedC_eq]at hc
 obtain⟨u,hu,hr⟩:=hc 0 _ rfl
 obtain⟨u1,hu1,hr1⟩:=hc 1 _ rfl
 obtain⟨u2,hu2,hr2⟩:=hc 2 _ rfl
 obtain⟨u3,hu3,hr3⟩:=hc 3 _ rfl
 obtain⟨u4,hu4,hr4⟩:=hc 4 _ rfl
 obtain⟨u5,hu5,hr5⟩:=hc 5 _ rfl
 obtain⟨u6,hu6,hr6⟩:=hc 6 _ rfl
 exact⟨b,off,u1,u5,u6,ha,hb,hp,by rw[←hr.is];exact hu,hu1,by rw[←hr2.is];exact hu2,by rw[←hr3.is];exact hu3,by rw[←hr4.is];exact hu4,hu5,hu6,hr1,hr5,hr6⟩
theorem again_any (y:Step×Node) (x:Step) (n:Node) (kv xa xk k2 x2 y2:Value) (g:Nat) (p q:Nat→Prop) (w:World) (hk:Rep w p kv (strsD y.1.key)) (hg:K7 w g x n k2 x2 y2) (h2:Rep w q k2 (strsD x.key)):
  Calls Tryz.prog 94 #[keyedV y.1 y.2 kv xa xk,.pointer (some ⟨g,0,none⟩)] w fun e w'=>e= .returned (.bool (stepB y.1 x))∧Ext w w':=by
 obtain⟨ka,kc,rfl,_,_⟩:=hk.count z_str (by omega)
 obtain⟨la,lc,rfl,_,_⟩:=h2.count z_str (by omega)
 obtain⟨w1,hw1⟩:∃W,w.alloc (.cells #[.string (bs y.1.n),.slice ka y.1.key.length kc,.int .i64 y.2.kind,.string (bs y.2.name),.string (bs y.2.text),xa,xk] 98)=W:=⟨_,rfl⟩
 obtain⟨gb,hgb⟩:∃g,w.heap.size=g:=⟨_,rfl⟩
 have hE1:Ext w w1:=by rw[←hw1];exact(Ext.refl w).alloc _
 have hb:K7 w1 gb y.1 y.2 (.slice ka y.1.key.length kc) xa xk:=by rw[←hw1,←hgb];exact k7_box w y.1 y.2 _ _ _
 have hg1:=hg.ext hE1
 have c0:=hb.c0;have c1:=hb.c1;have d0:=hg1.c0;have d1:=hg1.c1
 have HC:=Lh (stepI_any y.1 x p q _ _ w1 (hk.ext hE1) (h2.ext hE1))
 have hz:=stepI_zero y.1 x
 obtain⟨R,hR⟩:∃R,stepB y.1 x=R:=⟨_,rfl⟩
 rw[hR]
 have HR:=Lh hR
 clear hR
 have HE:=Lh hE1
 have HW:=Lh (And.intro hw1 hgb)
 obtain⟨z,hzz⟩:∃z,stepI y.1 x=z:=⟨_,rfl⟩
 rw[hzz]at HC hz
 clear hk hg h2 hE1 hb hg1 hw1 hgb hzz
 unfold keyedV
 go_enter Tryz.func94,Tryz.ntmps94
 go_upto_region 1 with fail
 rw[HW.out.1,HW.out.2]
 by_cases h0:z=0
 ·
  have q0:(z==0)=true:=by rw[beq_iff_eq];exact h0
  have hst:stepB y.1 x=true:=(stepB_iff _ _).2 (hz.1 h0)
  obtain rfl:=hst.symm.trans HR.out
  clear h0 hz
  go_wp2_with fail
  refine HC.out.mono ?_
  rintro e w2 ⟨rfl,hX⟩
  go_wp2_with fail
  go_ret
  exact⟨rfl,HE.out.trans hX⟩
 ·
  have q0:(z==0)=false:=by rw[beq_eq_false_iff_ne];exact h0
  have hst:stepB y.1 x=false:=by
   cases hb:stepB y.1 x with
   | false=>rfl
   | true=>exact absurd (hz.2 ((stepB_iff _ _).1 hb)) h0
  obtain rfl:=hst.symm.trans HR.out
  clear h0 hz
  go_wp2_with fail
  refine HC.out.mono ?_
  rintro e w2 ⟨rfl,hX⟩
  go_wp2_with fail
  go_ret
  exact⟨rfl,HE.out.trans hX⟩
def anyS (l:List (Step×Node)) (x:Step):Bool:=l.any fun y=>stepB y.1 x
theorem idxK_any (l:List (Step×Node)) (hl:l.length≤16777216) (x:Step) (n:Node) (k2 x2 y2:Value) (g:Nat) (p q:Nat→Prop) (v:Value) (w:World) (h:Rep w p v (keyedsD l)) (hg:K7 w g x n k2 x2 y2) (h2:Rep w q k2 (strsD x.key)):
  Calls Tryz.prog 134 #[v,.func (.func 94) #[] #[.pointer (some ⟨g,0,none⟩)]] w fun e w'=>(∃r:Int,e= .returned (.int .i64 r)∧decide (0≤r)=anyS l x)∧Ext w w':=by
 obtain⟨a,c,rfl,hc1,hc2⟩:=h.count z_keyed (by omega)
 obtain⟨R,hR⟩:∃R,anyS l x=R:=⟨_,rfl⟩
 rw[hR]
 have HR:=Lh hR
 have HG:=Lh (And.intro hg h2)
 clear hR hg h2
 go_enter Tryz.func134,Tryz.ntmps134
 go_wp2_with fail
 go_loopw [5,8] (fun _ t wr=>∃i:Nat,t= .int .i64 i∧i≤l.length∧Ext w wr∧Hid (anyS (l.drop i) x=R)) (fun _ t _=>downV l.length t)
 case atStart=>exact⟨0,rfl,Nat.zero_le _,Ext.refl _,HR⟩
 case round=>
  obtain⟨i,rfl,hi,hX,HI⟩:=hrel
  have hi0:(0:Int)≤(i:Int):=by omega
  by_cases hlt:i< l.length
  ·
   have hlI:(i:Int)< (l.length:Int):=by omega
   obtain⟨gb,o,kv,xa,xk,rfl,lg,_,e0,e1,e2,e3,e4,e5,e6,hk,_,_⟩:=keyed_at (h.ext hX) i hlt
   have HS:Hid (anyS (l.drop i) x=(stepB l[i].1 x || anyS (l.drop (i+1)) x)):=Lh (by rw[drop_one l i hlt];rfl)
   obtain⟨y,hy⟩:∃y,l[i]=y:=⟨_,rfl⟩
   rw[hy]at e0 e2 e3 e4 hk HS
   obtain⟨ka,kc,rfl,_,_⟩:=hk.count z_str (by omega)
   have HC:=Lh (again_any y x n _ xa xk k2 x2 y2 g p q wr hk (HG.out.1.ext hX) (HG.out.2.ext hX))
   unfold keyedV at HC
   obtain⟨b,hb⟩:∃b,stepB y.1 x=b:=⟨_,rfl⟩
   rw[hb]at HC HS
   have HX:=Lh hX
   clear hy hb hX hk
   cases b with
   | true=>
    obtain rfl:true=R:=by rw[←HI.out,HS.out];rfl
    go_wp2_with fail
    refine HC.out.mono ?_
    rintro e w1 ⟨rfl,hX1⟩
    go_wp2_with fail
    go_ret
    exact⟨⟨_,rfl,by rw[decide_eq_true hi0]⟩,HX.out.trans hX1⟩
   | false=>
    have HN:Hid (anyS (l.drop (i+1)) x=R):=Lh (by rw[←HI.out,HS.out];rfl)
    clear HI HS
    go_wp2_with fail
    refine HC.out.mono ?_
    rintro e w1 ⟨rfl,hX1⟩
    go_wp2_with fail
    go_roundw
    case rel=>exact⟨i+1,by go_num,by omega,HX.out.trans hX1,HN⟩
    case measure=>simp only[downV];omega
  ·
   have hlI:¬(i:Int)< (l.length:Int):=by omega
   obtain rfl:false=R:=by rw[←HI.out,List.drop_of_length_le (by omega)];rfl
   clear HI
   go_wp2_with fail
   go_ret
   exact⟨⟨_,rfl,by decide⟩,hX⟩
theorem contK_any (l:List (Step×Node)) (hl:l.length≤16777216) (x:Step) (n:Node) (k2 x2 y2:Value) (g:Nat) (p q:Nat→Prop) (v:Value) (w:World) (h:Rep w p v (keyedsD l)) (hg:K7 w g x n k2 x2 y2) (h2:Rep w q k2 (strsD x.key)):
  Calls Tryz.prog 93 #[v,.func (.func 94) #[] #[.pointer (some ⟨g,0,none⟩)]] w fun e w'=>e= .returned (.bool (anyS l x))∧Ext w w':=by
 have HC:=Lh (idxK_any l hl x n k2 x2 y2 g p q v w h hg h2)
 obtain⟨R,hR⟩:∃R,anyS l x=R:=⟨_,rfl⟩
 rw[hR]at HC⊢
 clear hR h hg h2
 go_enter Tryz.func93,Tryz.ntmps93
 go_wp2_with fail
 refine HC.out.mono ?_
 rintro e w1 ⟨⟨r,rfl,hr⟩,hX⟩
 clear HC
 by_cases h0:0≤r
 ·
  obtain rfl:true=R:=by rw[←hr,decide_eq_true h0]
  clear hr
  go_wp2_with fail
  go_ret
  exact⟨ret_bool (by first | rfl | exact decide_eq_true h0),hX⟩
 ·
  obtain rfl:false=R:=by rw[←hr,decide_eq_false h0]
  clear hr
  go_wp2_with fail
  go_ret
  exact⟨ret_bool (by first | rfl | exact decide_eq_false (by omega)),hX⟩
section
variable {P:Program} {ops:Array Oper} {Q:Exit→Act→World→Prop} {S:World→Prop} {fuel:Nat} {listed:Array Bool} {a:Act} {w:World}
theorem rg_three (i j k:Nat) (hr:Region.ready .any ops listed= [i,j,k]) (h1:wpOp P ops Q i (fun a w=>S w∧wpAnyH P .any ops Q S fuel (listed.setIfInBounds i true) a w) a w)
  (h2:wpOp P ops Q j (fun a w=>S w∧wpAnyH P .any ops Q S fuel (listed.setIfInBounds j true) a w) a w) (h3:wpOp P ops Q k (fun a w=>S w∧wpAnyH P .any ops Q S fuel (listed.setIfInBounds k true) a w) a w):wpAnyH P .any ops Q S (fuel+1) listed a w:=by
 refine wpAnyH_all hr (by simp) fun m hm=> ?_
 have hm':m=i∨m=j∨m=k:=by simpa using hm
 rcases hm' with rfl | rfl | rfl
 ·
  exact h1
 ·
  exact h2
 ·
  exact h3
end
theorem k7_of {W:World} {b:Nat} (h:W.heap[b]? =some (.cells #[.string ⟨#[]⟩,.slice none 0 0,.int .i64 0,.string ⟨#[]⟩,.string ⟨#[]⟩,.slice none 0 0,.slice none 0 0] 98 (0,0))):K7 W b noStep zeroN (.slice none 0 0) (.slice none 0 0) (.slice none 0 0):=
 ⟨blk_lt h,by unfold World.cell?;rw[h];rfl,by unfold World.cell?;rw[h];rfl,by unfold World.cell?;rw[h];rfl,by unfold World.cell?;rw[h];rfl,by unfold World.cell?;rw[h];rfl,by unfold World.cell?;rw[h];rfl,by unfold World.cell?;rw[h];rfl,fun i _=>by unfold World.frozen?;rw[h];simp⟩
theorem store_keyed {W:World} {b:Nat} {s:Step} {n:Node} {kv xa xk:Value} (h:K7 W b s n kv xa xk) (t:Step) (m:Node) (ka xa' ya:Option Addr) (kn kc xn xc yn yc:Nat):
  (Instr.storeAt 98 (.pointer (some ⟨b,0,none⟩)) (keyedV t m (.slice ka kn kc) (.slice xa' xn xc) (.slice ya yn yc))).run Tryz.prog W= .ok () (st7 W b t m (.slice ka kn kc) (.slice xa' xn xc) (.slice ya yn yc)):=by
 obtain⟨u0,c0⟩:∃u,W.cell? ⟨b,0,none⟩=some u:=⟨_,h.c0⟩
 obtain⟨u1,c1⟩:∃u,W.cell? ⟨b,1,none⟩=some u:=⟨_,h.c1⟩
 obtain⟨u2,c2⟩:∃u,W.cell? ⟨b,2,none⟩=some u:=⟨_,h.c2⟩
 obtain⟨u3,c3⟩:∃u,W.cell? ⟨b,3,none⟩=some u:=⟨_,h.c3⟩
 obtain⟨u4,c4⟩:∃u,W.cell? ⟨b,4,none⟩=some u:=⟨_,h.c4⟩
 obtain⟨u5,c5⟩:∃u,W.cell? ⟨b,5,none⟩=some u:=⟨_,h.c5⟩
 obtain⟨u6,c6⟩:∃u,W.cell? ⟨b,6,none⟩=some u:=⟨_,h.c6⟩
 have f0:=h.fz 0 (by omega);have f1:=h.fz 1 (by omega);have f2:=h.fz 2 (by omega);have f3:=h.fz 3 (by omega);have f4:=h.fz 4 (by omega);have f5:=h.fz 5 (by omega);have f6:=h.fz 6 (by omega)
 unfold st7 keyedV
 go_simp
def ChQ (W:World) (g:Nat) (lv:Value) (r:(Int×Int) ⊕ (Step×Node)) (nx:Int) (s:Step) (n:Node) (kv xa xk ev:Value) (w':World):Prop:=Exc g W w'∧match r with
 | .inl c=>ErrV w' W.heap.size c.1 c.2 ev
 | .inr x=>s=x.1∧n=x.2∧ev= .nilIface∧FB w' g lv nx∧Rep w' (fun b=>W.heap.size≤b) kv (strsD x.1.key)∧Rep w' (fun b=>W.heap.size≤b) xa (attrsD x.2.attrs)∧Rep w' (fun b=>W.heap.size≤b) xk (nodesD x.2.kids)
theorem chq_of {W:World} {g:Nat} {lv:Value} {r:(Int×Int) ⊕ (Step×Node)} {nx:Int} {e:Ending} {w':World} (h:ChR W g lv r nx e w'):∃(s:Step) (n:Node) (ka xa ya:Option Addr) (kn kc xn xc yn yc:Nat) (ev:Value),e= .returned (.tuple #[keyedV s n (.slice ka kn kc) (.slice xa xn xc) (.slice ya yn yc),ev])∧ChQ W g lv r nx s n (.slice ka kn kc) (.slice xa xn xc) (.slice ya yn yc) ev w':=by
 obtain⟨hX,h⟩:=h
 cases r with
 | inl c=>
  obtain⟨v,he,hv⟩:=h
  exact⟨noStep,zeroN,none,none,none,0,0,0,0,0,0,v,he,hX,hv⟩
 | inr x=>
  obtain⟨hF,kv,xa,xk,he,h1,h2,h3⟩:=h
  obtain⟨ka,kc,rfl,_,_⟩:=h1.count z_str (by omega)
  obtain⟨xa,xc,rfl,_,_⟩:=h2.count z_attr (by omega)
  obtain⟨ya,yc,rfl,_,_⟩:=h3.count z_node (by omega)
  exact⟨x.1,x.2,ka,xa,ya,_,kc,_,xc,_,yc,_,he,hX,rfl,rfl,rfl,hF,h1,h2,h3⟩
def ChT (w0:World) (g:Nat) (lv:Value) (r:(Int×Int) ⊕ (Step×Node)) (nx:Int) (s:Step) (n:Node) (kv xa xk ev:Value) (gz:Nat) (w':World):Prop:=K7 w' gz s n kv xa xk∧w0.heap.size≤gz∧ChQ w0 g lv r nx s n kv xa xk ev w'
theorem FB.block {W W':World} {g:Nat} {lv:Value} {n:Int} (h:FB W g lv n) (hl:W.heap.size≤W'.heap.size) (hb:W'.heap[g]? =W.heap[g]?):FB W' g lv n:=
 ⟨Nat.lt_of_lt_of_le h.lt hl,(World.cell?_of_block (a:=⟨g,0,none⟩) hb).trans h.c0,(World.cell?_of_block (a:=⟨g,1,none⟩) hb).trans h.c1,(World.frozen?_of_block (a:=⟨g,1,none⟩) hb).trans h.f1⟩
section
variable {w0 W w' X:World} {g gz:Nat} {lv:Value} {r:(Int×Int) ⊕ (Step×Node)} {nx:Int} {s s0:Step} {n n0:Node} {kv xa xk ev k0 x0 y0:Value}
theorem cht_before (h:ChQ W g lv r nx s n kv xa xk ev w') (hE:Ext w0 W) (hz:w0.heap.size≤gz) (hzW:gz< W.heap.size) (hg:g< w0.heap.size) (hX:Ext w' X) (hk:K7 X gz s0 n0 k0 x0 y0):ChT w0 g lv r nx s n kv xa xk ev gz (st7 X gz s n kv xa xk):=by
 have hs:=hE.size
 have hst:∀b,b≠gz→(st7 X gz s n kv xa xk).heap[b]? =X.heap[b]? :=fun b hb=>st7_block X gz s n kv xa xk hb
 refine⟨hk.put,hz,((YY.Exc.trans' ((Exc.refl g w0).ext hE) h.1).ext hX).st7 hz s n kv xa xk,?_⟩
 have h2:=h.2
 cases r with
 | inl c=>exact((h2.ext hX).kept7 hzW).low hs
 | inr x=>
  obtain⟨e1,e2,e3,hF,h3,h4,h5⟩:=h2
  refine⟨e1,e2,e3,(hF.ext hX).block (by rw[st7_size];exact Nat.le_refl _) (hst g (by omega)),?_,?_,?_⟩
  ·
   exact((h3.ext hX).kept fun b hb _=>hst b (by have hb':_≤b:=hb;omega)).ok fun b hb=>Nat.le_trans hs hb
  ·
   exact((h4.ext hX).kept fun b hb _=>hst b (by have hb':_≤b:=hb;omega)).ok fun b hb=>Nat.le_trans hs hb
  ·
   exact((h5.ext hX).kept fun b hb _=>hst b (by have hb':_≤b:=hb;omega)).ok fun b hb=>Nat.le_trans hs hb
theorem cht_after (h:ChQ W g lv r nx s n kv xa xk ev w') (hE:Ext w0 W) (hz:w'.heap.size≤gz) (hg:g< w0.heap.size) (hX:Ext w' X) (hk:K7 X gz s0 n0 k0 x0 y0):ChT w0 g lv r nx s n kv xa xk ev gz (st7 X gz s n kv xa xk):=by
 have hs:=hE.size
 have hs2:=h.1.1
 have hX2:Ext w' (st7 X gz s n kv xa xk):=YY.Ext7 hX hz s n kv xa xk
 refine⟨hk.put,by omega,(YY.Exc.trans' ((Exc.refl g w0).ext hE) h.1).ext hX2,?_⟩
 have h2:=h.2
 cases r with
 | inl c=>exact(h2.ext hX2).low hs
 | inr x=>
  obtain⟨e1,e2,e3,hF,h3,h4,h5⟩:=h2
  exact⟨e1,e2,e3,hF.ext hX2,(h3.ext hX2).ok fun b hb=>Nat.le_trans hs hb,(h4.ext hX2).ok fun b hb=>Nat.le_trans hs hb,(h5.ext hX2).ok fun b hb=>Nat.le_trans hs hb⟩
end
theorem row_low {w:World} {base base' z n:Nat} {e:TypeId} {v:Value} {us:List Value} (h:w.ownsRow base e z v n us) (hb:base'≤base):w.ownsRow base' e z v n us:=
 ⟨h.1,h.2.imp id fun⟨g,cap,cur,e1,h1,r⟩=>⟨g,cap,cur,e1,Nat.le_trans hb h1,r⟩⟩
theorem Own.low {w:World} {p q:Nat→Prop} {base base' z n:Nat} {e:TypeId} {v:Value} {es:List DV} (h:Own w p base e z v n es) (hb:base'≤base) (hpq:∀b,p b→q b):Own w q base' e z v n es:=by
 obtain⟨us,h1,h2⟩:=h
 exact⟨us,row_low h1 hb,h2.ok fun b hb=>⟨hpq b hb.1,hb.2⟩⟩
theorem k7_grown {w w':World} {row:Option Nat} {b:Nat} {s:Step} {n:Node} {kv xa xk:Value} (h:K7 w b s n kv xa xk) (hg:w.grownBy w' row) (hb:some b≠row):K7 w' b s n kv xa xk:=h.block hg.size (hg.block b h.lt hb)
end Go.Proofs.YtcfibjiikhnfhaaGreatDoor
