/-
 norm.Normal. Helper lemmas;no statement of the seat is proved here.
-/
import Derived.Test.YtcfibjiikhnfhaaGreatDoorU15
import Derived.Test.YtcfibjiikhnfhaaGreatDoorU16
import Derived.Deep.DeepCutAuto
namespace Go.Proofs.YtcfibjiikhnfhaaGreatDoor
open Go.RowKit
set_option maxHeartbeats 32000000
set_option maxRecDepth 100000
set_option linter.unusedVariables false
set_option linter.unusedSimpArgs false
def Sh (g h:Nat) (a w:World):Prop:=a.heap.size≤w.heap.size∧∀b,b≠g→b≠h→b< a.heap.size→w.heap[b]? =a.heap[b]?
theorem Sh.begin (g h:Nat) (w:World):Sh g h w w.drew:=⟨Nat.le_refl _,fun _ _ _ _=>rfl⟩
theorem Sh.cell {g h:Nat} {a w:World} (k:Sh g h a w) {b o:Nat} {v:Value} (hb:b< a.heap.size∧b≠g∧b≠h) (hc:a.cell? ⟨b,o,none⟩=some v):w.cell? ⟨b,o,none⟩=some v:=(World.cell?_of_block (a:=⟨b,o,none⟩) (k.2 b hb.2.1 hb.2.2 hb.1)).trans hc
theorem Exc.to {g:Nat} {a w w':World} (h:Exc g w w') (hE:Ext a w) (hg:a.heap.size≤g):Ext a w':=
 ⟨h.3.1.trans hE.os,h.3.2.1.trans hE.tape,h.3.2.2.trans hE.output,Nat.le_trans hE.size h.1,fun k hk=>(h.2 k (by omega) (Nat.lt_of_lt_of_le hk hE.size)).trans (Below.block hE k hk)⟩
def ElQ (W:World) (g:Nat) (r:(Int×Int) ⊕ Node) (m:Node) (xa:Option Addr) (xn xc:Nat) (xk:Option Addr) (yn yc:Nat) (ev:Value) (w':World):Prop:=Exc g W w'∧match r with
 | .inl c=>m=zeroN∧xa=none∧xn=0∧xc=0∧xk=none∧yn=0∧yc=0∧ErrV w' W.heap.size c.1 c.2 ev
 | .inr n=>m=n∧ev= .nilIface∧Rep w' (fun b=>W.heap.size≤b) (.slice xa xn xc) (attrsD n.attrs)∧Rep w' (fun b=>W.heap.size≤b) (.slice xk yn yc) (nodesD n.kids)
theorem elq_of {W:World} {g:Nat} {lv:Value} {r:(Int×Int) ⊕ Node} {nx:Int} {e:Ending} {w':World} (h:ElR W g lv r nx e w'):∃(m:Node) (xa xk:Option Addr) (xn xc yn yc:Nat) (ev:Value),e= .returned (.tuple #[.agg #[.int .i64 m.kind,.string (bs m.name),.string (bs m.text),.slice xa xn xc,.slice xk yn yc],ev])∧ElQ W g r m xa xn xc xk yn yc ev w':=by
 obtain⟨hX,h⟩:=h
 cases r with
 | inl c=>
  obtain⟨v,he,hv⟩:=h
  exact⟨zeroN,none,none,0,0,0,0,v,he,hX,rfl,rfl,rfl,rfl,rfl,rfl,rfl,hv⟩
 | inr n=>
  obtain⟨hF,xa,xk,he,h1,h2⟩:=h
  obtain⟨a,c,rfl,_,_⟩:=h1.count z_attr (by omega)
  obtain⟨a2,c2,rfl,_,_⟩:=h2.count z_node (by omega)
  exact⟨n,a,a2,_,c,_,c2,_,he,hX,rfl,rfl,h1,h2⟩
mutual
theorem nsz_cnt:∀n:Node,nsz n≤cntN n
 | .mk k nm t la ks=>by rw[nsz,cntN];have:=nszL_cnt ks;omega
theorem nszL_cnt:∀l:List Node,nszL l≤cntL l
 | []=>Nat.le_refl _
 | n::r=>by rw[nszL,cntL];have:=nsz_cnt n;have:=nszL_cnt r;omega
end
mutual
theorem elemsN_cnt:∀n:Node,elemsN n≤cntN n
 | .mk k nm t la ks=>by rw[elemsN,cntN];have:=elemsL_cnt ks;split<;> omega
theorem elemsL_cnt:∀l:List Node,elemsL l≤cntL l
 | []=>Nat.le_refl _
 | n::r=>by rw[elemsL,cntL];have:=elemsN_cnt n;have:=elemsL_cnt r;omega
end
theorem mayP_ne {l:List Rule} (h:mayP l=true):0< l.length∧∀r∈l,r.path≠ []:=by
 unfold mayP at h
 split at h
 ·
  rename_i hl
  refine⟨by omega,fun r hr=> ?_⟩
  obtain⟨i,hi,rfl⟩:=List.getElem_of_mem hr
  unfold mayI at h
  rw[List.all_eq_true]at h
  have:=h i (by rw[List.mem_range'_1];omega)
  rw[Bool.and_eq_true,List.getD_eq_getElem?_getD,List.getElem?_eq_getElem hi]at this
  exact ruleE_ne this.1
 ·
  cases h
def nrP (l:List Rule) (n:Node):(Int×Int) ⊕ Node:=if mayP l=false then .inl (20,0)else if¬(n.kind=1∧fairE n=true)then .inl (80,0)else if n.name≠(l.getD 0 noRule).path.getD 0 []then .inl (24,0)else elP l n (l.getD 0 noRule).path 0
def NrR (W:World) (r:(Int×Int) ⊕ Node) (e:Ending) (w':World):Prop:=match r with
 | .inl c=>∃v,e= .returned (.tuple #[zeroNV,v])∧ErrV w' W.heap.size c.1 c.2 v
 | .inr n=>∃xa xk,e= .returned (.tuple #[.agg #[.int .i64 n.kind,.string (bs n.name),.string (bs n.text),xa,xk],.nilIface])∧Rep w' (fun b=>W.heap.size≤b) xa (attrsD n.attrs)∧Rep w' (fun b=>W.heap.size≤b) xk (nodesD n.kids)
theorem normal_any (l:List Rule) (hb:∀r∈l,r.path.length≤1048576∧r.keys.length≤1048576∧(∀x∈r.path,x.length≤1048576)∧∀x∈r.keys,x.length≤1048576) (hll:l.length≤1048576) (n:Node) (hcnt:cntN n≤1048576) (p q:Nat→Prop) (v va vk:Value) (w:World)
  (hT:EN w) (h:Rep w q v (rulesD l)) (hva:Rep w p va (attrsD n.attrs)) (hvk:Rep w p vk (nodesD n.kids)):
  Calls Tryz.prog 6 #[v,.agg #[.int .i64 n.kind,.string (bs n.name),.string (bs n.text),va,vk]] w fun e w'=>NrR w (nrP l n) e w'∧Ext w w':=by
 obtain⟨la0,lc,rfl,hlc1,hlc2⟩:=h.count z_rule (by omega)
 obtain⟨ba,ca,rfl,_,_⟩:=hva.count z_attr (by omega)
 obtain⟨bk,ck,rfl,_,_⟩:=hvk.count z_node (by omega)
 obtain⟨R,hR⟩:∃R,nrP l n=R:=⟨_,rfl⟩
 rw[hR]
 unfold nrP at hR
 obtain⟨w1,hw1⟩:∃X,(w.alloc (.cells #[.int .i64 n.kind,.string (bs n.name),.string (bs n.text),.slice ba n.attrs.length ca,.slice bk n.kids.length ck] 26)).alloc (.cells #[.int .i64 0,.string ⟨#[]⟩,.string ⟨#[]⟩,.slice none 0 0,.slice none 0 0] 26)=X:=⟨_,rfl⟩
 obtain⟨gk,hgk⟩:∃x,w.heap.size=x:=⟨_,rfl⟩
 obtain⟨gr,hgr⟩:∃x,gk+1=x:=⟨_,rfl⟩
 have hE1:Ext w w1:=by rw[←hw1];exact((Ext.refl w).alloc _).alloc _
 have hb1:B5 w1 gk n (.slice ba n.attrs.length ca) (.slice bk n.kids.length ck):=by rw[←hw1,←hgk];exact(b5_box w n _ _).ext ((Ext.refl _).alloc _)
 have hr1:B5 w1 gr zeroN (.slice none 0 0) (.slice none 0 0):=by
  rw[←hw1,←hgr,←hgk]
  have:=b5_zero (w.alloc (.cells #[.int .i64 n.kind,.string (bs n.name),.string (bs n.text),.slice ba n.attrs.length ca,.slice bk n.kids.length ck] 26))
  simpa using this
 have HM:=Lh (mayK_any l hb hll q _ w1 (hT.ext hE1).all (hT.ext hE1).mx (h.ext hE1))
 have HG:=Lh (show gk=w.heap.size∧gr=gk+1∧Ext w w1∧B5 w1 gk n (.slice ba n.attrs.length ca) (.slice bk n.kids.length ck)∧B5 w1 gr zeroN (.slice none 0 0) (.slice none 0 0) from⟨hgk.symm,hgr.symm,hE1,hb1,hr1⟩)
 have HH:=Lh (show EN w∧Rep w q (.slice la0 l.length lc) (rulesD l)∧Rep w p (.slice ba n.attrs.length ca) (attrsD n.attrs)∧Rep w p (.slice bk n.kids.length ck) (nodesD n.kids)∧cntN n≤1048576∧(∀r∈l,r.path.length≤1048576∧r.keys.length≤1048576∧(∀x∈r.path,x.length≤1048576)∧∀x∈r.keys,x.length≤1048576) from⟨hT,h,hva,hvk,hcnt,hb⟩)
 have HW:=Lh (And.intro hw1 (And.intro hgk hgr))
 obtain⟨mb,hmb⟩:∃b,mayP l=b:=⟨_,rfl⟩
 rw[hmb]at HM hR
 have HMB:=Lh hmb
 have HR:=Lh hR
 clear hR hw1 hgk hgr hE1 hb1 hr1 hT h hva hvk hcnt hb hmb
 go_enter Tryz.func6,Tryz.ntmps6
 go_upto_region 1 with fail
 rw[HW.out.1,HW.out.2.1,HW.out.2.2]
 cases mb with
 | false=>
  obtain rfl: .inl (20,0)=R:=by rw[←HR.out,if_pos rfl]
  go_wp2_with fail
  refine HM.out.mono ?_
  rintro e w2 ⟨rfl,hX2⟩
  have hr2:=HG.out.2.2.2.2.ext hX2
  have hE2:=HG.out.2.2.1.trans hX2
  have HFA:=Lh (fail_any 20 0 (by decide) w2)
  have HRW:=Lh (And.intro hr2 hE2)
  go_wp2_with fail
  refine HFA.out.mono ?_
  rintro e wf ⟨⟨v,rfl,hv⟩,hBf⟩
  obtain⟨b1,b2,rfl,hv⟩:=hv
  replace hv:ErrV wf _ _ _ _:=⟨b1,b2,rfl,hv⟩
  have hrf:=HRW.out.1.ext hBf
  obtain⟨u0,z0⟩:∃u,wf.cell? ⟨gr,0,none⟩=some u:=⟨_,hrf.c0⟩
  obtain⟨u1,z1⟩:∃u,wf.cell? ⟨gr,1,none⟩=some u:=⟨_,hrf.c1⟩
  obtain⟨u2,z2⟩:∃u,wf.cell? ⟨gr,2,none⟩=some u:=⟨_,hrf.c2⟩
  obtain⟨u3,z3⟩:∃u,wf.cell? ⟨gr,3,none⟩=some u:=⟨_,hrf.c3⟩
  obtain⟨u4,z4⟩:∃u,wf.cell? ⟨gr,4,none⟩=some u:=⟨_,hrf.c4⟩
  have y0:=hrf.f0;have y1:=hrf.f1;have y2:=hrf.f2;have y3:=hrf.f3;have y4:=hrf.f4
  have HP:=Lh (show B5 (st5 wf gr zeroN (.slice none 0 0) (.slice none 0 0)) gr zeroN (.slice none 0 0) (.slice none 0 0)∧Ext w (st5 wf gr zeroN (.slice none 0 0) (.slice none 0 0))∧ErrV (st5 wf gr zeroN (.slice none 0 0) (.slice none 0 0)) w.heap.size 20 0 (.iface 116 (.pointer (some ⟨b1,0,none⟩))) from by
   have hg:=HG.out
   have hs:=HRW.out.2.size
   have hl:=HRW.out.1.lt
   exact⟨hrf.put,Ext.st5 (HRW.out.2.trans hBf) (by omega) _ _ _,(hv.kept5 (by omega) _ _ _).low (by omega)⟩)
  clear hv hrf hBf
  go_wp2_with fail
  refine bodyPost_ret (res_node rfl _ _ _ ⟨gr,0,none⟩ ?_ (load_node HP.out.1)) rfl ?_
  ·
   rfl
  exact⟨⟨_,rfl,HP.out.2.2⟩,HP.out.2.1⟩
 | true=>
  have HR1:Hid ((if¬(n.kind=1∧fairE n=true)then .inl (80,0)else if n.name≠(l.getD 0 noRule).path.getD 0 []then .inl (24,0)else elP l n (l.getD 0 noRule).path 0)=R):=Lh (by have h:=HR.out;rw[if_neg (show¬(true=false) by decide)]at h;exact h)
  clear HR
  go_wp2_with fail
  refine HM.out.mono ?_
  rintro e w2 ⟨rfl,hX2⟩
  have hb2:=HG.out.2.2.2.1.ext hX2
  have n0:=hb2.c0;have n1:=hb2.c1;have n2:=hb2.c2;have n3:=hb2.c3;have n4:=hb2.c4
  have HX2:=Lh hX2
  have HB2:=Lh hb2
  clear HM hX2 hb2
  by_cases hk:n.kind=1
  ·
   have q1:(n.kind !=1)=false:=by rw[hk];rfl
   have hE2:=HG.out.2.2.1.trans HX2.out
   have HF:=Lh (fairF_any (nsz n+1) n _ _ p w2 (by omega) HH.out.2.2.2.2.1 (HH.out.1.ext hE2) (HH.out.2.2.1.ext hE2) (HH.out.2.2.2.1.ext hE2))
   obtain⟨fb,hfb⟩:∃b,fairE n=b:=⟨_,rfl⟩
   rw[hfb]at HF HR1
   have HFB:=Lh (And.intro hfb hk)
   have HR2:Hid ((if fb=false then .inl (80,0)else if n.name≠(l.getD 0 noRule).path.getD 0 []then .inl (24,0)else elP l n (l.getD 0 noRule).path 0)=R):=Lh (by rw[←HR1.out];cases fb<;> simp[hk])
   clear hk hE2 hfb HR1
   cases fb with
   | false=>
    obtain rfl: .inl (80,0)=R:=by rw[←HR2.out,if_pos rfl]
    go_wp2_with fail
    refine HF.out.mono ?_
    rintro e w3 ⟨rfl,hX3⟩
    have hr2:=(HG.out.2.2.2.2.ext HX2.out).ext hX3
    have hE2:=(HG.out.2.2.1.trans HX2.out).trans hX3
    clear n0 n1 n2 n3 n4
    have HFA:=Lh (fail_any 80 0 (by decide) w3)
    have HRW:=Lh (And.intro hr2 hE2)
    go_wp2_with fail
    refine HFA.out.mono ?_
    rintro e wf ⟨⟨v,rfl,hv⟩,hBf⟩
    obtain⟨b1,b2,rfl,hv⟩:=hv
    replace hv:ErrV wf _ _ _ _:=⟨b1,b2,rfl,hv⟩
    have hrf:=HRW.out.1.ext hBf
    obtain⟨u0,z0⟩:∃u,wf.cell? ⟨gr,0,none⟩=some u:=⟨_,hrf.c0⟩
    obtain⟨u1,z1⟩:∃u,wf.cell? ⟨gr,1,none⟩=some u:=⟨_,hrf.c1⟩
    obtain⟨u2,z2⟩:∃u,wf.cell? ⟨gr,2,none⟩=some u:=⟨_,hrf.c2⟩
    obtain⟨u3,z3⟩:∃u,wf.cell? ⟨gr,3,none⟩=some u:=⟨_,hrf.c3⟩
    obtain⟨u4,z4⟩:∃u,wf.cell? ⟨gr,4,none⟩=some u:=⟨_,hrf.c4⟩
    have y0:=hrf.f0;have y1:=hrf.f1;have y2:=hrf.f2;have y3:=hrf.f3;have y4:=hrf.f4
    have HP:=Lh (show B5 (st5 wf gr zeroN (.slice none 0 0) (.slice none 0 0)) gr zeroN (.slice none 0 0) (.slice none 0 0)∧Ext w (st5 wf gr zeroN (.slice none 0 0) (.slice none 0 0))∧ErrV (st5 wf gr zeroN (.slice none 0 0) (.slice none 0 0)) w.heap.size 80 0 (.iface 116 (.pointer (some ⟨b1,0,none⟩))) from by
     have hg:=HG.out
     have hs:=HRW.out.2.size
     have hl:=HRW.out.1.lt
     exact⟨hrf.put,Ext.st5 (HRW.out.2.trans hBf) (by omega) _ _ _,(hv.kept5 (by omega) _ _ _).low (by omega)⟩)
    clear hv hrf hBf
    go_wp2_with fail
    refine bodyPost_ret (res_node rfl _ _ _ ⟨gr,0,none⟩ ?_ (load_node HP.out.1)) rfl ?_
    ·
     rfl
    exact⟨⟨_,rfl,HP.out.2.2⟩,HP.out.2.1⟩
   | true=>
    have HR3:Hid ((if n.name≠(l.getD 0 noRule).path.getD 0 []then .inl (24,0)else elP l n (l.getD 0 noRule).path 0)=R):=Lh (by have h:=HR2.out;rw[if_neg (show¬(true=false) by decide)]at h;exact h)
    clear HR2
    go_wp2_with fail
    refine HF.out.mono ?_
    rintro e w3 ⟨rfl,hX3⟩
    have hE3:=(HG.out.2.2.1.trans HX2.out).trans hX3
    have hb3:=HB2.out.ext hX3
    have hr3:=(HG.out.2.2.2.2.ext HX2.out).ext hX3
    obtain⟨hl0,hne⟩:=mayP_ne HMB.out
    obtain⟨gl,ol,vp,vkk,ela,lgl,lgp0,e0,e1,hrp,_⟩:=rule_at (HH.out.2.1.lt.ext hE3) 0 hl0
    subst ela
    rw[Nat.zero_mul,Nat.add_zero]at e0
    have hg0:l.getD 0 noRule=l[0]:=by rw[List.getD_eq_getElem?_getD,List.getElem?_eq_getElem hl0];rfl
    have hne0:=hne l[0] (List.getElem_mem hl0)
    have hbd0:=HH.out.2.2.2.2.2 l[0] (List.getElem_mem hl0)
    have lgw:gl< w.heap.size:=lgp0.2
    obtain⟨P,hP⟩:∃P,l[0].path=P:=⟨_,rfl⟩
    rw[hg0,hP]at HR3
    rw[hP]at hne0 hbd0 hrp
    obtain⟨pa,pc,rfl,hpc1,hpc2⟩:=hrp.count z_str (by omega)
    have hp0:0< P.length:=List.length_pos_iff.2 hne0
    obtain⟨gp,op,epa,lgp,_,q0⟩:=str_at hrp 0 hp0
    subst epa
    rw[Nat.add_zero]at q0
    have hpg:P.getD 0 []=P[0]:=by rw[List.getD_eq_getElem?_getD,List.getElem?_eq_getElem hp0];rfl
    obtain⟨pr,hpr⟩:∃x,P[0]=x:=⟨_,rfl⟩
    rw[hpr]at q0 hpg
    rw[hpg]at HR3
    have hl0I:(0:Int)< (l.length:Int):=by omega
    have hp0I:(0:Int)< (P.length:Int):=by omega
    have n1:=hb3.c1
    have lk:=hb3.lt
    have ll:=lgl
    have lp:=lgp
    have HS3:=Lh (And.intro hE3 (And.intro hb3 (And.intro hr3 (And.intro hrp (And.intro hne hbd0)))))
    have HNE:=Lh hP
    clear HF n0 n2 n3 n4 hE3 hb3 hr3 hne hg0 hne0 hbd0 hrp hpg hpr hX3 hP
    by_cases hnm:n.name=pr
    ·
     have hqp:(bs n.name).toList=(bs pr).toList:=by rw[hnm]
     have hq:((bs n.name).toList !=(bs pr).toList)=false:=by rw[hnm];exact bne_self_eq_false _
     obtain⟨nb,hnb⟩:∃b,b=false:=⟨_,rfl⟩
     rw[←hnb]at hq
     have HR4:Hid (elP l n P 0=R):=Lh (by rw[←HR3.out,if_neg (by simpa using hnm)])
     clear HR3 hnm
     go_upto_region 5 with fail
     refine rg_begin (S:=Sx w3) (by kernel_rfl) (Sx.begin _) ?_
     have hSa:Sx w3 (World.drew w3):=(Sx.begin _)
     refine rg_t 0 (some 25) (.pointer (some ⟨gk,1,none⟩)) rfl hSa (fun w' hs=>by first | rfl | go_simp) ?_
     simp only[Act.put,sA,sZ,sS]
     refine rg_t 1 (some 26) (.string (bs n.name)) rfl hSa (fun w' hs=>by(have h0:=hs.cell lk n1;go_simp)) ?_
     simp only[Act.put,sA,sZ,sS]
     refine rg_t 2 (some 27) (.slice (some ⟨gl,ol,none⟩) l.length lc) rfl hSa (fun w' hs=>by rfl) ?_
     simp only[Act.put,sA,sZ,sS]
     refine rg_t 3 (some 28) (.pointer (some ⟨gl,ol,none⟩)) rfl hSa (fun w' hs=>by first | rfl | go_simp) ?_
     simp only[Act.put,sA,sZ,sS]
     refine rg_t 4 (some 29) (.pointer (some ⟨gl,ol,none⟩)) rfl hSa (fun w' hs=>by first | rfl | go_simp) ?_
     simp only[Act.put,sA,sZ,sS]
     refine rg_t 5 (some 30) (.slice (some ⟨gp,op,none⟩) P.length pc) rfl hSa (fun w' hs=>by(have h0:=hs.cell ll e0;go_simp)) ?_
     simp only[Act.put,sA,sZ,sS]
     refine rg_t 6 (some 31) (.pointer (some ⟨gp,op,none⟩)) rfl hSa (fun w' hs=>by first | rfl | go_simp) ?_
     simp only[Act.put,sA,sZ,sS]
     refine rg_t 7 (some 32) (.string (bs pr)) rfl hSa (fun w' hs=>by(have h0:=hs.cell lp q0;go_simp)) ?_
     simp only[Act.put,sA,sZ,sS]
     refine rg_t 8 (some 33) (.bool nb) rfl hSa (fun w' hs=>by go_simp) ?_
     simp only[Act.put,sA,sZ,sS]
     refine rg_t 9 (some 24) (.bool nb) rfl hSa (fun w' hs=>by rfl) ?_
     simp only[Act.put,sA,sZ,sS]
     refine rg_done (by kernel_rfl) ?_
     subst hnb
     have hEd3:Ext w (World.drew w3):=HS3.out.1.trans hSa
     have hb4:=HS3.out.2.1.ext hSa
     have hr4:=HS3.out.2.2.1.ext hSa
     have hp4:=HS3.out.2.2.2.1.ext hSa
     have k0:=(show Ext w3 (World.drew w3) from hSa).keep ll e0
     obtain⟨w4,hw4⟩:∃X,World.drew w3=X:=⟨_,rfl⟩
     rw[hw4]at hEd3 hb4 hr4 hp4 k0
     rw[hw4]
     obtain⟨w5,hw5⟩:∃X,w4.alloc (.cells #[.slice (some ⟨gl,ol,none⟩) l.length lc,.int .i64 0] 56)=X:=⟨_,rfl⟩
     obtain⟨gf,hgf⟩:∃x,w4.heap.size=x:=⟨_,rfl⟩
     have hE5:Ext w4 w5:=by rw[←hw5];exact(Ext.refl w4).alloc _
     have hF5:FB w5 gf (.slice (some ⟨gl,ol,none⟩) l.length lc) 0:=by rw[←hw5,←hgf];exact⟨by simp,by simp[go_sem],by simp[go_sem],by simp[go_sem]⟩
     have hD:Ext w5 (World.drew w5):=(Ext.refl w5).drew
     have hEd:=(hEd3.trans hE5).trans hD
     have hwf:w.heap.size≤gf:=by have:=hEd3.size;omega
     have hlt4:gk< gf∧gr< gf:=by have h1:=hb4.lt;have h2:=hr4.lt;omega
     have hb5:=hb4.ext hE5
     have hr5:=hr4.ext hE5
     have hel:Calls Tryz.prog 21 #[.pointer (some ⟨gf,0,none⟩),.agg #[.int .i64 n.kind,.string (bs n.name),.string (bs n.text),.slice ba n.attrs.length ca,.slice bk n.kids.length ck],.slice (some ⟨gp,op,none⟩) P.length pc] (World.drew w5) fun e w'=>ElR (World.drew w5) gf (.slice (some ⟨gl,ol,none⟩) l.length lc) (elP l n P 0) (0+elemsN n) e w':=by
      have hh:=HH.out
      have hn:=elemsN_cnt n
      have hz:=nsz_cnt n
      have h3:=HS3.out
      refine el_any l (nsz n+1) n P (World.drew w5) gf _ _ _ _ 0 (fun b=>p b∧b< w.heap.size) (fun b=>q b∧b< w.heap.size) (fun b=>q b∧b< w.heap.size) (by omega) HFB.out.2 (by omega) (by omega) {
       cnt:=hh.2.2.2.2.1
       nd:=fair_nd n HFB.out.1
       rb:=fun r hr=>⟨(hh.2.2.2.2.2 r hr).1,(hh.2.2.2.2.2 r hr).2.1,(hh.2.2.2.2.2 r hr).2.2.1,(hh.2.2.2.2.2 r hr).2.2.2,h3.2.2.2.2.1 r hr⟩
       pl:=by have:=h3.2.2.2.2.2.1;omega
       pb:=fun x hx=>by have:=h3.2.2.2.2.2.2.2.1 x hx;omega
       en:=hh.1.ext hEd
       fb:=hF5.ext hD
       hl:=hh.2.1.lt.ext hEd
       hp:=(hp4.ext hE5).ext hD
       ha:=hh.2.2.1.lt.ext hEd
       hk:=hh.2.2.2.1.lt.ext hEd
       pg:=fun b hb=>by have:=hb.2;omega
       qg:=fun b hb=>by have:=hb.2;omega
       sg:=fun b hb=>by have:=hb.2;omega
       gE:=fun X hX=>hh.1.ext (hX.to hEd (by omega))}
     obtain⟨er,her⟩:∃r,elP l n P 0=r:=⟨_,rfl⟩
     rw[her]at hel
     have HEL:=Lh (hel.mono fun e w' h=>elq_of h)
     have HRE:Hid (er=R):=Lh (her.symm.trans HR4.out)
     have n0:=hb5.c0;have n1:=hb5.c1;have n2:=hb5.c2;have n3:=hb5.c3;have n4:=hb5.c4
     have e0:=hE5.keep (Nat.lt_of_lt_of_le ll (by rw[←hw4];exact Nat.le_refl _)) k0
     have lk:=hb5.lt
     have nk1:gk≠gf:=by omega
     have nk2:gk≠gr:=by have:=HG.out;omega
     have ll':gl< w5.heap.size:=Nat.lt_of_lt_of_le ll (by have:=hE5.size;rw[←hw4]at this;exact this)
     have nl1:gl≠gf:=by have h3:=HS3.out.1.size;rw[←hgf,←hw4];exact Nat.ne_of_lt ll
     have hfr:gr≠gf:=by omega
     have HR5:Hid (B5 (World.drew w5) gr zeroN (.slice none 0 0) (.slice none 0 0)):=Lh (hr5.ext hD)
     have nl2:gl≠gr:=by have h1:=HG.out;have h2:=lgw;omega
     have HEd:=Lh (And.intro hEd (And.intro hwf (And.intro hlt4 hr5.lt)))
     have HW5:=Lh (And.intro hw5 hgf)
     have ll:=ll'
     clear hEd3 hb4 hr4 hp4 k0 hw4 hw5 hgf hE5 hF5 hD hEd hwf hlt4 hb5 hr5 hel her HR4 ll' HS3 q0 lp
     go_upto_region 8 with fail
     rw[HW5.out.1,HW5.out.2]
     refine rg_begin (S:=Sh gf gr w5) (by kernel_rfl) (Sh.begin _ _ _) ?_
     have hSb:Sh gf gr w5 (World.drew w5):=(Sh.begin _ _ _)
     refine rg_t 0 (some 39) (.pointer (some ⟨gf,0,none⟩)) rfl hSb (fun w' hs=>by rfl) ?_
     simp only[Act.put,sA,sZ,sS]
     refine rg_t 1 (some 40) (.agg #[.int .i64 n.kind,.string (bs n.name),.string (bs n.text),.slice ba n.attrs.length ca,.slice bk n.kids.length ck]) rfl hSb (fun w' hs=>by(have h0:=hs.cell ⟨lk,nk1,nk2⟩ n0;have h1:=hs.cell ⟨lk,nk1,nk2⟩ n1;have h2:=hs.cell ⟨lk,nk1,nk2⟩ n2;have h3:=hs.cell ⟨lk,nk1,nk2⟩ n3;have h4:=hs.cell ⟨lk,nk1,nk2⟩ n4;go_simp)) ?_
     simp only[Act.put,sA,sZ,sS]
     refine rg_t 2 (some 41) (.slice (some ⟨gl,ol,none⟩) l.length lc) rfl hSb (fun w' hs=>by rfl) ?_
     simp only[Act.put,sA,sZ,sS]
     refine rg_t 3 (some 42) (.pointer (some ⟨gl,ol,none⟩)) rfl hSb (fun w' hs=>by first | rfl | go_simp) ?_
     simp only[Act.put,sA,sZ,sS]
     refine rg_t 4 (some 43) (.pointer (some ⟨gl,ol,none⟩)) rfl hSb (fun w' hs=>by first | rfl | go_simp) ?_
     simp only[Act.put,sA,sZ,sS]
     refine rg_t 5 (some 44) (.slice (some ⟨gp,op,none⟩) P.length pc) rfl hSb (fun w' hs=>by(have h0:=hs.cell ⟨ll,nl1,nl2⟩ e0;go_simp)) ?_
     simp only[Act.put,sA,sZ,sS]
     refine rg_one 6 (by kernel_rfl) ?_
     refine tk_call 6 (some 45) 21 #[.pointer (some ⟨gf,0,none⟩),.agg #[.int .i64 n.kind,.string (bs n.name),.string (bs n.text),.slice ba n.attrs.length ca,.slice bk n.kids.length ck],.slice (some ⟨gp,op,none⟩) P.length pc] rfl rfl (by rfl) (fun w'=>by first | rfl | go_simp) (R:=fun v w'=>∃(m:Node) (xa xk:Option Addr) (xn xc yn yc:Nat) (ev:Value),v= .tuple #[.agg #[.int .i64 m.kind,.string (bs m.name),.string (bs m.text),.slice xa xn xc,.slice xk yn yc],ev]∧ElQ (World.drew w5) gf er m xa xn xc xk yn yc ev w') ?_ ?_
     ·
      exact HEL.out.mono fun e w' ⟨m,xa,xk,xn,xc,yn,yc,ev,he,hq⟩=>⟨_,he,m,xa,xk,xn,xc,yn,yc,ev,rfl,hq⟩
     rintro _ wq ⟨m,xa,xk,xn,xc,yn,yc,ev,rfl,hQ⟩
     have hSq:Sh gf gr w5 wq:=⟨hQ.1.1,fun b h1 _ h3=>hQ.1.2 b h1 h3⟩
     refine⟨hSq,?_⟩
     simp only[Act.put,sA,sZ,sS]
     refine rg_t 7 (some 46) (.agg #[.int .i64 m.kind,.string (bs m.name),.string (bs m.text),.slice xa xn xc,.slice xk yn yc]) rfl hSq (fun w' hs=>by first | rfl | go_simp) ?_
     simp only[Act.put,sA,sZ,sS]
     refine rg_t 8 (some 47) (ev) rfl hSq (fun w' hs=>by first | rfl | go_simp) ?_
     simp only[Act.put,sA,sZ,sS]
     have hrq:=HR5.out.exc hfr hQ.1
     refine rg_one 9 (by kernel_rfl) ?_
     refine tk_write 9 none (st5 wq gr m (.slice xa xn xc) (.slice xk yn yc)) (by rfl) rfl (by rfl) (exec_store rfl (store_nodeS (m:=m) hrq xa xk xn xc yn yc)) ?_
     have hSst:Sh gf gr w5 (st5 wq gr m (.slice xa xn xc) (.slice xk yn yc)):=⟨by rw[st5_size];exact hSq.1,fun b h1 h2 h3=>(st5_block wq gr _ _ _ h2).trans (hSq.2 b h1 h2 h3)⟩
     refine⟨hSst,?_⟩
     simp only[Act.put,sA,sZ,sS]
     refine rg_t 10 (some 5) (ev) rfl hSst (fun w' hs=>by rfl) ?_
     simp only[Act.put,sA,sZ,sS]
     refine rg_done (by kernel_rfl) ?_
     obtain rfl:=HRE.out
     have hwq:=hQ.1.to HEd.out.1 HEd.out.2.1
     have hgrw:w.heap.size≤gr:=by have:=HG.out;omega
     have HP:=Lh (show B5 (st5 wq gr m (.slice xa xn xc) (.slice xk yn yc)) gr m (.slice xa xn xc) (.slice xk yn yc)∧Ext w (st5 wq gr m (.slice xa xn xc) (.slice xk yn yc)) from⟨hrq.put,Ext.st5 hwq hgrw _ _ _⟩)
     have hst:∀b,b≠gr→(st5 wq gr m (.slice xa xn xc) (.slice xk yn yc)).heap[b]? =wq.heap[b]? :=fun b hb=>st5_block wq gr _ _ _ hb
     have hsd:(World.drew w5).heap.size=w5.heap.size:=rfl
     have hg5:gr< w5.heap.size:=HEd.out.2.2.2
     have hw5s:w.heap.size≤w5.heap.size:=by have:=HEd.out;omega
     have hQ2:=hQ.2
     clear n0 n1 n2 n3 n4 e0 lk nk1 nk2 nl1 nl2 hfr HEL hq hQ hrq hwq ll
     cases er with
     | inl c=>
      obtain⟨rfl,rfl,rfl,rfl,rfl,rfl,rfl,hv⟩:=hQ2
      obtain⟨b1,b2,rfl,hv⟩:=hv
      have hvv:ErrV wq (World.drew w5).heap.size c.1 c.2 (.iface 116 (.pointer (some ⟨b1,0,none⟩))):=⟨b1,b2,rfl,hv⟩
      have HV:=Lh ((hvv.kept5 (by rw[hsd];exact hg5) zeroN (.slice none 0 0) (.slice none 0 0)).low (by rw[hsd];exact hw5s))
      clear hv hvv hst
      go_wp2_with fail
      refine bodyPost_ret (res_node rfl _ _ _ ⟨gr,0,none⟩ ?_ (load_node HP.out.1)) rfl ?_
      ·
       rfl
      exact⟨⟨_,rfl,HV.out⟩,HP.out.2⟩
     | inr m'=>
      obtain⟨rfl,rfl,h1,h2⟩:=hQ2
      have HV:=Lh (show Rep (st5 wq gr m (.slice xa xn xc) (.slice xk yn yc)) (fun b=>w.heap.size≤b) (.slice xa xn xc) (attrsD m.attrs)∧Rep (st5 wq gr m (.slice xa xn xc) (.slice xk yn yc)) (fun b=>w.heap.size≤b) (.slice xk yn yc) (nodesD m.kids) from
       ⟨(h1.kept fun b hb _=>hst b (by have hb':(World.drew w5).heap.size≤b:=hb;omega)).ok fun b hb=>by have hb':(World.drew w5).heap.size≤b:=hb;omega,(h2.kept fun b hb _=>hst b (by have hb':(World.drew w5).heap.size≤b:=hb;omega)).ok fun b hb=>by have hb':(World.drew w5).heap.size≤b:=hb;omega⟩)
      clear h1 h2 hst
      go_wp2_with fail
      refine bodyPost_ret (res_node rfl _ _ _ ⟨gr,0,none⟩ ?_ (load_node HP.out.1)) rfl ?_
      ·
       rfl
      exact⟨⟨_,_,rfl,HV.out.1,HV.out.2⟩,HP.out.2⟩
    ·
     have hqp:¬(bs n.name).toList=(bs pr).toList:=by rw[bs_toList,bs_toList];exact hnm
     have hq:((bs n.name).toList !=(bs pr).toList)=true:=by rw[bne_iff_ne,bs_toList,bs_toList];exact hnm
     obtain⟨nb,hnb⟩:∃b,b=true:=⟨_,rfl⟩
     rw[←hnb]at hq
     obtain rfl: .inl (24,0)=R:=by rw[←HR3.out,if_pos hnm]
     clear HR3 hnm
     go_upto_region 5 with fail
     refine rg_begin (S:=Sx w3) (by kernel_rfl) (Sx.begin _) ?_
     have hSa:Sx w3 (World.drew w3):=(Sx.begin _)
     refine rg_t 0 (some 25) (.pointer (some ⟨gk,1,none⟩)) rfl hSa (fun w' hs=>by first | rfl | go_simp) ?_
     simp only[Act.put,sA,sZ,sS]
     refine rg_t 1 (some 26) (.string (bs n.name)) rfl hSa (fun w' hs=>by(have h0:=hs.cell lk n1;go_simp)) ?_
     simp only[Act.put,sA,sZ,sS]
     refine rg_t 2 (some 27) (.slice (some ⟨gl,ol,none⟩) l.length lc) rfl hSa (fun w' hs=>by rfl) ?_
     simp only[Act.put,sA,sZ,sS]
     refine rg_t 3 (some 28) (.pointer (some ⟨gl,ol,none⟩)) rfl hSa (fun w' hs=>by first | rfl | go_simp) ?_
     simp only[Act.put,sA,sZ,sS]
     refine rg_t 4 (some 29) (.pointer (some ⟨gl,ol,none⟩)) rfl hSa (fun w' hs=>by first | rfl | go_simp) ?_
     simp only[Act.put,sA,sZ,sS]
     refine rg_t 5 (some 30) (.slice (some ⟨gp,op,none⟩) P.length pc) rfl hSa (fun w' hs=>by(have h0:=hs.cell ll e0;go_simp)) ?_
     simp only[Act.put,sA,sZ,sS]
     refine rg_t 6 (some 31) (.pointer (some ⟨gp,op,none⟩)) rfl hSa (fun w' hs=>by first | rfl | go_simp) ?_
     simp only[Act.put,sA,sZ,sS]
     refine rg_t 7 (some 32) (.string (bs pr)) rfl hSa (fun w' hs=>by(have h0:=hs.cell lp q0;go_simp)) ?_
     simp only[Act.put,sA,sZ,sS]
     refine rg_t 8 (some 33) (.bool nb) rfl hSa (fun w' hs=>by go_simp) ?_
     simp only[Act.put,sA,sZ,sS]
     refine rg_t 9 (some 24) (.bool nb) rfl hSa (fun w' hs=>by rfl) ?_
     simp only[Act.put,sA,sZ,sS]
     refine rg_done (by kernel_rfl) ?_
     subst hnb
     have hr2:=HS3.out.2.2.1.ext hSa
     have hE2:=HS3.out.1.trans hSa
     clear n1 lk ll lp e0 e1 q0 hq
     have HFA:=Lh (fail_any 24 0 (by decide) (World.drew w3))
     have HRW:=Lh (And.intro hr2 hE2)
     go_wp2_with fail
     refine HFA.out.mono ?_
     rintro e wf ⟨⟨v,rfl,hv⟩,hBf⟩
     obtain⟨b1,b2,rfl,hv⟩:=hv
     replace hv:ErrV wf _ _ _ _:=⟨b1,b2,rfl,hv⟩
     have hrf:=HRW.out.1.ext hBf
     obtain⟨u0,z0⟩:∃u,wf.cell? ⟨gr,0,none⟩=some u:=⟨_,hrf.c0⟩
     obtain⟨u1,z1⟩:∃u,wf.cell? ⟨gr,1,none⟩=some u:=⟨_,hrf.c1⟩
     obtain⟨u2,z2⟩:∃u,wf.cell? ⟨gr,2,none⟩=some u:=⟨_,hrf.c2⟩
     obtain⟨u3,z3⟩:∃u,wf.cell? ⟨gr,3,none⟩=some u:=⟨_,hrf.c3⟩
     obtain⟨u4,z4⟩:∃u,wf.cell? ⟨gr,4,none⟩=some u:=⟨_,hrf.c4⟩
     have y0:=hrf.f0;have y1:=hrf.f1;have y2:=hrf.f2;have y3:=hrf.f3;have y4:=hrf.f4
     have HP:=Lh (show B5 (st5 wf gr zeroN (.slice none 0 0) (.slice none 0 0)) gr zeroN (.slice none 0 0) (.slice none 0 0)∧Ext w (st5 wf gr zeroN (.slice none 0 0) (.slice none 0 0))∧ErrV (st5 wf gr zeroN (.slice none 0 0) (.slice none 0 0)) w.heap.size 24 0 (.iface 116 (.pointer (some ⟨b1,0,none⟩))) from by
      have hg:=HG.out
      have hs:=HRW.out.2.size
      have hl:=HRW.out.1.lt
      exact⟨hrf.put,Ext.st5 (HRW.out.2.trans hBf) (by omega) _ _ _,(hv.kept5 (by omega) _ _ _).low (by omega)⟩)
     clear hv hrf hBf
     go_wp2_with fail
     refine bodyPost_ret (res_node rfl _ _ _ ⟨gr,0,none⟩ ?_ (load_node HP.out.1)) rfl ?_
     ·
      rfl
     exact⟨⟨_,rfl,HP.out.2.2⟩,HP.out.2.1⟩
  ·
   have q1:(n.kind !=1)=true:=by rw[bne_iff_ne];exact hk
   obtain rfl: .inl (80,0)=R:=by rw[←HR1.out,if_pos (fun h=>hk h.1)]
   have hr2:=HG.out.2.2.2.2.ext HX2.out
   have hE2:=HG.out.2.2.1.trans HX2.out
   clear hk HR1
   have HFA:=Lh (fail_any 80 0 (by decide) w2)
   have HRW:=Lh (And.intro hr2 hE2)
   go_wp2_with fail
   refine HFA.out.mono ?_
   rintro e wf ⟨⟨v,rfl,hv⟩,hBf⟩
   obtain⟨b1,b2,rfl,hv⟩:=hv
   replace hv:ErrV wf _ _ _ _:=⟨b1,b2,rfl,hv⟩
   have hrf:=HRW.out.1.ext hBf
   obtain⟨u0,z0⟩:∃u,wf.cell? ⟨gr,0,none⟩=some u:=⟨_,hrf.c0⟩
   obtain⟨u1,z1⟩:∃u,wf.cell? ⟨gr,1,none⟩=some u:=⟨_,hrf.c1⟩
   obtain⟨u2,z2⟩:∃u,wf.cell? ⟨gr,2,none⟩=some u:=⟨_,hrf.c2⟩
   obtain⟨u3,z3⟩:∃u,wf.cell? ⟨gr,3,none⟩=some u:=⟨_,hrf.c3⟩
   obtain⟨u4,z4⟩:∃u,wf.cell? ⟨gr,4,none⟩=some u:=⟨_,hrf.c4⟩
   have y0:=hrf.f0;have y1:=hrf.f1;have y2:=hrf.f2;have y3:=hrf.f3;have y4:=hrf.f4
   have HP:=Lh (show B5 (st5 wf gr zeroN (.slice none 0 0) (.slice none 0 0)) gr zeroN (.slice none 0 0) (.slice none 0 0)∧Ext w (st5 wf gr zeroN (.slice none 0 0) (.slice none 0 0))∧ErrV (st5 wf gr zeroN (.slice none 0 0) (.slice none 0 0)) w.heap.size 80 0 (.iface 116 (.pointer (some ⟨b1,0,none⟩))) from by
    have hg:=HG.out
    have hs:=HRW.out.2.size
    have hl:=HRW.out.1.lt
    exact⟨hrf.put,Ext.st5 (HRW.out.2.trans hBf) (by omega) _ _ _,(hv.kept5 (by omega) _ _ _).low (by omega)⟩)
   clear hv hrf hBf
   go_wp2_with fail
   refine bodyPost_ret (res_node rfl _ _ _ ⟨gr,0,none⟩ ?_ (load_node HP.out.1)) rfl ?_
   ·
    rfl
   exact⟨⟨_,rfl,HP.out.2.2⟩,HP.out.2.1⟩
theorem own_form {w:World} {base z n:Nat} {e:TypeId} {v:Value} {us:List Value} (h:w.ownsRow base e z v n us):∃o c,v= .slice o n c:=by
 rcases h.2 with⟨rfl,rfl⟩ | ⟨g,cap,cur,rfl,_⟩
 ·
  exact⟨_,_,rfl⟩
 ·
  exact⟨_,_,rfl⟩
theorem qlast_normal {P:Program} {ops:Array Oper} {last:Nat} {Q:Exit→Act→World→Prop} {a:Act} {w:World} (h:wpOp P ops Q last (fun a w=>Q .normal a w) a w):QLast P ops last Q .normal a w:=h
section
variable {P:Program} {ops:Array Oper} {Q:Exit→Act→World→Prop} {S:World→Prop} {fuel:Nat} {listed:Array Bool} {a:Act} {w:World}
end
theorem res_one {fn:Func} {t:Tmp} {T:TypeId} (h:fn.results= #[.cell t T]) (tmps:Array Value) (P:Program) (w:World) (ad:Addr) {v:Value} (ha:tmps.getD t undef= .pointer (some ad)) (hl:(loadVar T ad).run P w= .ok v w):
  (results fn tmps).run P w= .ok v w:=by
 have ha':tmps[t]?.getD undef= .pointer (some ad):=by simpa using ha
 simp[results,h,ha',asAddr,hl]
theorem lawsmall_any (l:List Rule) (a:Node) {p q:Nat→Prop} (v va vk:Value) (w:World) (hc:cntN a≤1048576) (hl:Rep w q v (rulesD l)) (hva:Rep w p va (attrsD a.attrs)) (hvk:Rep w p vk (nodesD a.kids)):
  Calls Tryz.prog 5 #[v,.agg #[.int .i64 a.kind,.string (bs a.name),.string (bs a.text),va,vk]] w fun e w'=>SomeB (fun b=>b=true→cntN a≤2000) e∧Ext w w':=by
 have HS:=Lh fun W (hE:Ext w W)=>rsmall_any q l v W (hl.ext hE)
 have HC:=Lh fun W (hE:Ext w W)=>bigsmall_any 2000 (by decide) a p va vk W hc (hva.ext hE) (hvk.ext hE)
 obtain⟨ba,ca,rfl,_,_⟩:=hva.count z_attr (by omega)
 obtain⟨bk,ck,rfl,_,_⟩:=hvk.count z_node (by omega)
 obtain⟨b2,hb2⟩:∃b,decide (smallN 2000 a≤2000)=b:=⟨_,rfl⟩
 rw[hb2]at HC
 have HB:=Lh (show b2=true→cntN a≤2000 from fun h=>by
  subst h
  have h1:=smallN_le 2000 a
  have h2:=of_decide_eq_true hb2
  have h3:=h1.2 h2
  omega)
 clear hl hva hvk hc hb2
 obtain⟨w1,hw1⟩:∃X,w.alloc (.cells #[.int .i64 a.kind,.string (bs a.name),.string (bs a.text),.slice ba a.attrs.length ca,.slice bk a.kids.length ck] 26)=X:=⟨_,rfl⟩
 have hE1:Ext w w1:=by rw[←hw1];exact(Ext.refl w).alloc _
 have hb1:B5 w1 w.heap.size a (.slice ba a.attrs.length ca) (.slice bk a.kids.length ck):=by rw[←hw1];exact b5_box w a _ _
 go_enter Tryz.func5,Tryz.ntmps5
 go_wp2_with fail
 refine(HS.out _ hE1).mono ?_
 rintro e w2 ⟨⟨b1,rfl,_⟩,hB1⟩
 cases b1 with
 | false=>
  go_wp2_with fail
  go_ret
  exact⟨⟨_,rfl,fun h=>by cases h⟩,hE1.trans hB1⟩
 | true=>
  have k0:=(hb1.ext hB1).c0;have k1:=(hb1.ext hB1).c1;have k2:=(hb1.ext hB1).c2;have k3:=(hb1.ext hB1).c3;have k4:=(hb1.ext hB1).c4
  go_wp2_with fail
  refine(HC.out _ (hE1.trans hB1)).mono ?_
  rintro e w3 ⟨rfl,hB2⟩
  go_wp2_with fail
  go_ret
  exact⟨⟨_,rfl,HB.out⟩,(hE1.trans hB1).trans hB2⟩
end Go.Proofs.YtcfibjiikhnfhaaGreatDoor
