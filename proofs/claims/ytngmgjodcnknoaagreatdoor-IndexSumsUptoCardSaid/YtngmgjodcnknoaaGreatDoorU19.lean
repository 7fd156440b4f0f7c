/-
 Laws drawn from elder texts. Helper lemmas;no statement of the seat is proved here.
-/
import Derived.Test.YtngmgjodcnknoaaGreatDoorU18
namespace Go.Proofs.YtngmgjodcnknoaaGreatDoor
open Go.RowKit
set_option maxHeartbeats 32000000
set_option maxRecDepth 100000
set_option linter.unusedVariables false
set_option linter.unusedSimpArgs false
theorem nodestep (l:List Rule) (hok:RulesOk l) (N:Nat) (ih:NodeOK l N) (path:List Bytes) (s:Step) (hs:List Held) (above:List Span) (p:Nat→Prop) (vl vp vk vh va:Value) (w:World) (hne:hs≠ [])
  (hh:∀h∈hs,wfN l h.n path∧nsz h.n≤N+1∧cntN h.n≤1048576∧path.length+nsz h.n≤1048577) (hsz:hszL hs≤16777216) (hhl:hs.length≤1048576) (hp0:0< path.length) (hsn:s.n.length≤9223372036854775807)
  (hvl:Rep w p vl (rulesD l)) (hvp:Rep w p vp (strsD path)) (hvk:Rep w p vk (strsD s.key)) (hvh:Rep w p vh (heldsD hs)) (hva:Rep w p va (spansD above)):
  Calls Tryz.prog 40 #[vl,vp,.agg #[.string (bs s.n),vk],vh,va] w fun e w'=>RetA (fun b=>p b∨w.heap.size≤b) (nodeP l (N+1) path s hs above) e w'∧Ext w w':=by
 obtain⟨la,lc,rfl,hlc1,hlc2⟩:=hvl.count z_rule kA
 obtain⟨pa,pc,rfl,hpc1,hpc2⟩:=hvp.count z_str kA
 obtain⟨ska,skc,rfl,_,_⟩:=hvk.count z_str kA
 obtain⟨ha,hc,rfl,hhc1,hhc2⟩:=hvh.count z_held kA
 obtain⟨aba,abc,rfl,_,_⟩:=hva.count z_span kA
 have hpl:path.length≤1048576:=by
  obtain⟨h,hm⟩:=List.exists_mem_of_ne_nil hs hne
  have:=(hh h hm).2.2.2;have:=nsz_pos h.n;omega
 obtain⟨i0,ii,iz0,iz1,iz2⟩:=info_parts infoStr
 obtain⟨j0,ji,jz0,jz1,jz2⟩:=info_parts infoStep
 obtain⟨k0,ki,kz0,kz1,kz2⟩:=info_parts infoHeld
 obtain⟨m0,mi,mz0,mz1,mz2⟩:=info_parts infoHelds
 obtain⟨n0,ni,nz0,nz1,nz2⟩:=info_parts infoANode
 have HHS:=Lh hh
 have IH:=Lh ih
 have HOK:=Lh hok
 have HNE:=Lh hne
 obtain⟨FB,hFB⟩:∃b,frontS l path=b:=⟨_,rfl⟩
 obtain⟨R,hR⟩:∃R,nodeP l (N+1) path s hs above=R:=⟨_,rfl⟩
 have HR:Hid (ANode.mk s.n s.key (versV hs above) (partsP FB hs) (if FB=true then []else((gather l path hs ([],[])).1.zip (gather l path hs ([],[])).2).map fun g=>nodeP l N (path++ [g.1.n]) g.1 g.2 (ownV hs))=R):=Lh (by rw[←hR,←hFB];rfl)
 have HFB:=Lh hFB
 rw[hR]
 have HVE:=Lh fun W (hE:Ext w W)=>versions_any p hs _ W hhl (hvh.ext hE)
 have HFR:=Lh fun W (hE:Ext w W)=>front_q p p l path _ _ W (hvl.ext hE) (hvp.ext hE)
 have HPA:=Lh fun W (hE:Ext w W)=>parts_any FB hs (fun b=>p b∧b< w.heap.size) _ W hhl (hvh.lt.ext hE)
 rw[hFB]at HFR
 clear hR hFB ih hok hne hh
 go_enter Tryz.func40,Tryz.ntmps40
 go_wp2_with fail
 obtain⟨g10,hg10⟩:∃g,w.heap.size+1=g:=⟨_,rfl⟩
 rw[hg10]
 obtain⟨g11,hg11⟩:∃g,g10+1=g:=⟨_,rfl⟩
 rw[hg11]
 have HG:=Lh (And.intro hg10 hg11)
 obtain⟨w1,hw1⟩:∃w1,((w.alloc (.cells #[.string (bs s.n),.slice ska s.key.length skc] 101)).alloc (.cells #[.string ⟨#[]⟩,.slice none 0 0,.slice none 0 0,.slice none 0 0,.slice none 0 0] 32)).alloc (.cells #[.string (bs s.n),.slice ska s.key.length skc,.slice none 0 0,.slice none 0 0,.slice none 0 0] 32)=w1:=⟨_,rfl⟩
 have hE1:Ext w w1:=by rw[←hw1];exact(((Ext.refl w).alloc _).alloc _).alloc _
 have hz1:w1.heap.size=w.heap.size+3:=by rw[←hw1];simp
 have hbr:A5 w1 g10 zeroA (.slice none 0 0) (.slice none 0 0) (.slice none 0 0) (.slice none 0 0):=by
  rw[←hw1,←hg10]
  exact A5.ext ⟨by simp,by simp[go_sem,zeroA,ANode.name];rfl,by simp[go_sem],by simp[go_sem],by simp[go_sem],by simp[go_sem],by simp[go_sem],by simp[go_sem],by simp[go_sem],by simp[go_sem],by simp[go_sem]⟩ ((Ext.refl _).alloc _)
 have hbo:A5 w1 g11 (outA s) (.slice ska s.key.length skc) (.slice none 0 0) (.slice none 0 0) (.slice none 0 0):=by
  rw[←hw1,←hg11,←hg10]
  exact⟨by simp,by simp[go_sem,outA,ANode.name],by simp[go_sem],by simp[go_sem],by simp[go_sem],by simp[go_sem],by simp[go_sem],by simp[go_sem],by simp[go_sem],by simp[go_sem],by simp[go_sem]⟩
 rw[hw1]
 clear hw1 hg10 hg11
 refine(HVE.out _ hE1).mono ?_
 rintro e w2 ⟨⟨ov,rfl,hov⟩,hB2⟩
 have hov':Rep w2 (fun b=>w.heap.size+3≤b) ov (spansD (ownV hs)):=hov.ok fun b hb=>by rw[←hz1];exact hb
 obtain⟨OW,hOW⟩:∃O,ownV hs=O:=⟨_,rfl⟩
 unfold versV at HR
 rw[hOW]at hov' HR
 obtain⟨ova,ovc,rfl,_,_⟩:=hov'.count z_span kA
 have hE2:=hE1.trans hB2
 have hbr2:=hbr.ext hB2
 have hbo2:=hbo.ext hB2
 have HSP:=Lh (spans_any _ p OW above (.slice ova OW.length ovc) (.slice aba above.length abc) w2 hov' (hva.ext hE2))
 obtain⟨SB,hSB⟩:∃b,spansS OW above=b:=⟨_,rfl⟩
 rw[hSB]at HSP HR
 have HOW:=Lh hOW
 have H2:=Lh (And.intro hE2 (And.intro hbr2 (And.intro hbo2 hov')))
 clear hov hbr hbo hbr2 hbo2 hE1 hB2 hov' hSB hOW HVE hva hE2
 go_wp2_with fail
 refine HSP.out.mono ?_
 rintro e w3 ⟨rfl,hB3⟩
 clear HSP
 rename_i K2 hK2 K1 hK1 K0 hK0
 have TAIL:∀(t31 t32 t33 t34:Value) (xva:Option Addr) (xvc:Nat) (VL:List Span) (w4:World),Hid (ANode.mk s.n s.key VL (partsP FB hs) (if FB=true then []else((gather l path hs ([],[])).1.zip (gather l path hs ([],[])).2).map fun g=>nodeP l N (path++ [g.1.n]) g.1 g.2 OW)=R)→
   Hid (Ext w w4∧A5 w4 g10 zeroA (.slice none 0 0) (.slice none 0 0) (.slice none 0 0) (.slice none 0 0)∧A5 w4 g11 (outA s) (.slice ska s.key.length skc) (.slice xva VL.length xvc) (.slice none 0 0) (.slice none 0 0)∧Rep w4 (fun b=>w.heap.size+3≤b) (.slice ova OW.length ovc) (spansD OW)∧Rep w4 (fun b=>w.heap.size+3≤b) (.slice xva VL.length xvc) (spansD VL))→
   K2 ⟨#[.slice la l.length lc,.slice pa path.length pc,.agg #[.string (bs s.n),.slice ska s.key.length skc],.slice ha hs.length hc,.slice aba above.length abc,undef,undef,.pointer (some ⟨w.heap.size,0,none⟩),undef,undef,.pointer (some ⟨g10,0,none⟩),.pointer (some ⟨g11,0,none⟩),.slice ova OW.length ovc,undef,undef,undef,undef,undef,undef,undef,undef,undef,.pointer (some ⟨w.heap.size,0,none⟩),.string (bs s.n),.pointer (some ⟨w.heap.size,1,none⟩),.slice ska s.key.length skc,.agg #[.string (bs s.n),.slice ska s.key.length skc,.slice none 0 0,.slice none 0 0,.slice none 0 0],.slice ha hs.length hc,.slice ova OW.length ovc,.slice ova OW.length ovc,.slice aba above.length abc,t31,t32,t33,t34,undef,undef,undef,undef,undef,undef,undef,undef,undef,undef,undef,undef,undef,undef,undef,undef,undef,undef,undef,undef,undef,undef,undef,undef,undef,undef,undef,undef,undef,undef,undef,undef,undef,undef,undef,undef,undef,undef,undef,undef,undef,undef,undef,undef,undef,undef,undef,undef,undef,undef,undef,undef,undef,undef,undef,undef,undef,undef,undef,undef,undef,undef,undef,undef,undef,undef,undef,undef,undef,undef,undef,undef,undef,undef,undef,undef,undef,undef,undef,undef,undef,undef,undef,undef,undef,undef,undef,undef,undef,undef,undef,undef,undef,undef,undef,undef,undef,undef,undef,undef,undef,undef,undef,undef,undef,undef,undef,undef,undef,undef,undef,undef,undef,undef,undef,undef,undef,undef,undef,undef,undef,undef,undef,undef,undef,undef,undef,undef,undef,undef,undef,undef,undef,undef,undef,undef,undef,undef,undef,undef,undef,undef,undef,undef,undef,undef],[]⟩ w4:=by
  intro t31 t32 t33 t34 xva xvc VL w4 HR4 H4
  refine hK2 _ _ ?_
  clear hK2 HR H2 hB3 hK0 hK1
  go_wp2_with fail
  refine(HFR.out _ H4.out.1).mono ?_
  rintro e w5 ⟨rfl,hD5⟩
  have hB5:=hD5.ext
  have hE5:=H4.out.1.trans hB5
  go_wp2_with fail
  refine(HPA.out _ hE5).mono ?_
  rintro e w6 ⟨⟨pv,rfl,hpv⟩,hB6⟩
  obtain⟨PQ,hPQ⟩:∃P,partsP FB hs=P:=⟨_,rfl⟩
  rw[hPQ]at hpv HR4
  obtain⟨pva,pvc,rfl,_,_⟩:=hpv.count z_part kA
  have hB46:=hB5.trans hB6
  obtain⟨w7,hw7⟩:∃w7,w6.setCell ⟨g11,3,none⟩ (.slice pva PQ.length pvc)=w7:=⟨_,rfl⟩
  have hbo6:=H4.out.2.2.1.ext hB46
  have oc0:=hbo6.c0
  have of0:=hbo6.f0
  have oc1:=hbo6.c1
  have of1:=hbo6.f1
  have oc2:=hbo6.c2
  have of2:=hbo6.f2
  have oc3:=hbo6.c3
  have of3:=hbo6.f3
  have oc4:=hbo6.c4
  have of4:=hbo6.f4
  have H7:Hid (Ext w w7∧A5 w7 g10 zeroA (.slice none 0 0) (.slice none 0 0) (.slice none 0 0) (.slice none 0 0)∧A5 w7 g11 (outA s) (.slice ska s.key.length skc) (.slice xva VL.length xvc) (.slice pva PQ.length pvc) (.slice none 0 0)∧Rep w7 (fun b=>w.heap.size+3≤b) (.slice ova OW.length ovc) (spansD OW)∧Rep w7 (fun b=>w.heap.size+3≤b) (.slice xva VL.length xvc) (spansD VL)∧Rep w7 (fun b=>(p b∧b< w.heap.size)∨w.heap.size+3≤b) (.slice pva PQ.length pvc) (partsD PQ)):=Lh (by
   have hg:=HG.out
   have hsz4:w.heap.size+3≤w5.heap.size:=by have:=(H4.out.2.2.1.ext hB5).lt;omega
   rw[←hw7]
   obtain⟨h1,h2,h3,h4,h5⟩:=H4.out
   exact⟨(h1.trans hB46).set kS _,(h2.ext hB46).block kI (Below.heap_setCell _ _ _ _ kS),(hbo6.set (m:=outA s) rfl).2.1 _,(h4.ext hB46).kept fun b hb _=>Below.heap_setCell _ _ _ _ kS,(h5.ext hB46).kept fun b hb _=>Below.heap_setCell _ _ _ _ kS,(hpv.kept fun b hb _=>Below.heap_setCell _ _ _ _ (by have hb':(p b∧b< w.heap.size)∨w5.heap.size≤b:=hb;simp only;omega)).ok fun b hb=>by have hb':(p b∧b< w.heap.size)∨w5.heap.size≤b:=hb;exact hb'.elim .inl (fun h=> .inr kA)⟩)
  have HW7:=Lh hw7
  have H6:=Lh (H4.out.2.1.ext hB46)
  have hne:g10≠g11:=by have:=HG.out;omega
  have hne2:g11≠g10:=Ne.symm hne
  clear hPQ hpv hB5 hB6 hB46 hbo6 hE5 hw7 H4 hD5 HFR HPA
  cases FB with
  | true=>
   have HN:Hid (ANode.mk s.n s.key VL PQ []=R):=Lh (by rw[←HR4.out];rfl)
   have hbr6:=H6.out
   have rc0:=hbr6.c0
   have rf0:=hbr6.f0
   have rc1:=hbr6.c1
   have rf1:=hbr6.f1
   have rc2:=hbr6.c2
   have rf2:=hbr6.f2
   have rc3:=hbr6.c3
   have rf3:=hbr6.f3
   have rc4:=hbr6.c4
   have rf4:=hbr6.f4
   have HRB:=Lh H7.out.2.1
   rw[←HW7.out]at HRB
   clear hbr6 H6
   go_wp2_with fail
   (try simp only[Exit.inBlock,Exit.then])
   refine bodyPost_ret (res_one rfl _ _ _ ⟨g10,0,none⟩ ?_ (load_anode (A5.put (n:=outA s) (xk:= .slice ska s.key.length skc) (xv:=(.slice xva VL.length xvc)) (xp:= .slice pva PQ.length pvc) (xc:=(.slice none 0 0)) HRB.out))) rfl ?_
   ·
    rfl
   rw[←HN.out]
   obtain⟨hx7,hbr7,hbo7,_,hxv,hpv⟩:=H7.out
   rw[HW7.out]
   have hg:=HG.out
   have hX8:Ext w (sa5 w7 g10 (outA s) (.slice ska s.key.length skc) (.slice xva VL.length xvc) (.slice pva PQ.length pvc) (.slice none 0 0)):=Ext.sa5 hx7 kA _ _ _ _ _
   exact⟨⟨ska,xva,pva,none,skc,xvc,pvc,0,rfl,(hvk.ext hX8).ok fun b hb=> .inl hb,(hxv.kept fun b hb _=>sa5_block _ _ _ _ _ _ _ kZ).ok fun b hb=> .inr kZ,(hpv.kept fun b hb _=>sa5_block _ _ _ _ _ _ _ (by have hb':(p b∧b< w.heap.size)∨w.heap.size+3≤b:=hb;omega)).ok fun b hb=>(by have hb':(p b∧b< w.heap.size)∨w.heap.size+3≤b:=hb;exact hb'.elim (fun h=> .inl h.1) (fun h=> .inr kA)),.nil 5⟩,hX8⟩
  | false=>
   obtain⟨G,hG⟩:∃G,gather l path hs ([],[])=G:=⟨_,rfl⟩
   have HRG:Hid (ANode.mk s.n s.key VL PQ ((G.1.zip G.2).map fun g=>nodeP l N (path++ [g.1.n]) g.1 g.2 OW)=R):=Lh (by rw[←HR4.out,←hG];rfl)
   have HGG:Hid (gather l path (hs.drop 0) ([],[])=G):=Lh hG
   have HGI:Hid (GInv G (fun t=>selH l path t hs)):=Lh (by rw[←hG];exact gather_all l path hs)
   have hsz0:0+hszL (hs.drop 0)≤16777216:=by rw[List.drop_zero];omega
   have HSZ:=Lh hsz
   clear hG HR4 H6 hsz
   go_wp2_with fail
   rw[HW7.out]
   clear HW7
   go_loopw [14,15,16] (fun sv dv t wr=>∃(i:Nat) (sa:Option Addr) (sc:Nat) (da:Option Addr) (dc:Nat) (g:List Step×List (List Held)) (vs:List Value) (c:Nat),t= .int .i64 i∧sv= .slice sa g.1.length sc∧dv= .slice da vs.length dc∧i≤hs.length∧c+hszL (hs.drop i)≤16777216∧Ext w7 wr∧Hid (GS p w w7 wr (.slice sa g.1.length sc) (.slice da vs.length dc) vs g c∧gather l path (hs.drop i) g=G)) (fun _ _ t _=>downV hs.length t)
   case atStart=>exact⟨0,none,0,none,0,([],[]),[],0,rfl,rfl,rfl,Nat.zero_le _,hsz0,Ext.refl _,Lh ⟨⟨.nil 2,F2.nil _ _ _ _ _ _ _,rfl,Nat.le_refl _,fun m hm=>(by cases hm)⟩,HGG.out⟩⟩
   case round=>
    clear HGG hsz0
    obtain⟨i,sa,sc,da,dc,g,vs,c,rfl,rfl,rfl,hi,hcb,hX7,HGS⟩:=hrel
    obtain⟨wo,hwo⟩:∃wo,wo=wr:=⟨_,rfl⟩
    subst hwo
    have hi0:=nZ0 i
    have hX:=H7.out.1.trans hX7
    by_cases hlt:i< hs.length
    ·
     have hlI:(i:Int)< (hs.length:Int):=by omega
     obtain⟨gh,oh,xa,yk,rfl,lgh,hpg,d0,d1,d2,d3,d4,d5,hxa,hyk⟩:=held_at hvh i hlt
     have hhf:=HHS.out hs[i] (List.getElem_mem hlt)
     have HSI:=Lh (gather_cons l path hs i hlt g)
     have hcd:=hszL_drop hs i hlt
     obtain⟨h,hh⟩:∃h,hs[i]=h:=⟨_,rfl⟩
     rw[hh]at d0 d1 d2 d3 hxa hyk HSI hhf hcd
     have hkk:=kids_lt h.n
     have hcb2:c+(h.n.kids.length+1)+hszL (hs.drop (i+1))≤16777216:=by omega
     obtain⟨xab,xac,rfl,_,_⟩:=hxa.count z_attr kA
     obtain⟨ykb,ykc,rfl,_,_⟩:=hyk.count z_node kA
     have lghr:gh< wo.heap.size:=Nat.lt_of_lt_of_le lgh hX.size
     have x0:=hX.keep lgh d0;have x1:=hX.keep lgh d1;have x2:=hX.keep lgh d2;have x3:=hX.keep lgh d3;have x4:=hX.keep lgh d4;have x5:=hX.keep lgh d5
     have HSC:=Lh (steps_any l path h.n p _ _ _ _ wo hhf.2.2.1 HOK.out hpl hp0 (hvl.ext hX) (hvp.ext hX) (hxa.ext hX) (hyk.ext hX))
     have hKl:=stepsS_len l path h.n.kids
     obtain⟨K,hK⟩:∃K,stepsS l path h.n.kids=K:=⟨_,rfl⟩
     rw[hK]at HSC hKl HSI
     obtain⟨RK,hRK⟩:∃RK,gatherK h.v K h.n.kids g=RK:=⟨_,rfl⟩
     rw[hRK]at HSI
     have HRK:Hid (gatherK h.v (K.drop 0) (h.n.kids.drop 0) g=RK):=Lh hRK
     have HNX1:Hid (gather l path (hs.drop (i+1)) RK=G):=Lh (by rw[←HGS.out.2,HSI.out])
     have hcd2:c≤c:=Nat.le_refl _
     clear hh hcd hhf hK hRK HSI hxa hkk d1 d2 d3 d4 hcb
     go_wp2_with fail
     refine HSC.out.mono ?_
     rintro e wk ⟨⟨kv,rfl,hkv⟩,hBk⟩
     obtain⟨ka,kc,rfl,_,_⟩:=hkv.count z_step kA
     have hX7k:=hX7.trans hBk
     have HGK0:Hid (GS p w w7 wk (.slice sa g.1.length sc) (.slice da vs.length dc) vs g c∧Rep wk (fun b=>w7.heap.size≤b∧¬Mut (.slice da vs.length dc) vs b) (.slice ka K.length kc) (stepsD K)∧gatherK h.v (K.drop 0) (h.n.kids.drop 0) g=RK):=Lh ⟨HGS.out.1.ext hBk,hkv.ok fun b hb=>(by have hb':wo.heap.size≤b:=hb;exact⟨by have:=hX7.size;omega,fun hm=>by have:=(HGS.out.1.2.1.mut_lt hm).2;omega⟩),HRK.out⟩
     have hKm:K.length≤16777216:=by omega
     obtain⟨c0,hc0⟩:∃c0,c0=c:=⟨_,rfl⟩
     have hcc:c≤c0+0:=by omega
     rw[←hc0]at hcb2
     clear HSC HRK HGS hkv hBk hX7 hX x0 x1 x2 x3 x4 x5 hc0 hcd2
     go_wp2_with fail
     go_loopw [14,15,18] (fun sv dv t wr=>∃(k:Nat) (sa:Option Addr) (sc:Nat) (da:Option Addr) (dc:Nat) (g:List Step×List (List Held)) (vs:List Value) (c:Nat),t= .int .i64 k∧sv= .slice sa g.1.length sc∧dv= .slice da vs.length dc∧k≤K.length∧c≤c0+k∧Ext w7 wr∧Hid (GS p w w7 wr (.slice sa g.1.length sc) (.slice da vs.length dc) vs g c∧Rep wr (fun b=>w7.heap.size≤b∧¬Mut (.slice da vs.length dc) vs b) (.slice ka K.length kc) (stepsD K)∧gatherK h.v (K.drop k) (h.n.kids.drop k) g=RK)) (fun _ _ t _=>downV K.length t)
     case atStart=>exact⟨0,sa,sc,da,dc,g,vs,c,rfl,rfl,rfl,Nat.zero_le _,hcc,hX7k,HGK0⟩
     case round=>
      clear HGK0 hX7k hcc
      obtain⟨k,sa,sc,da,dc,g,vs,c,rfl,rfl,rfl,hk,hck,hX7q,HGK⟩:=hrel
      obtain⟨wq,hwq⟩:∃wq,wq=wr:=⟨_,rfl⟩
      subst hwq
      have hk0:=nZ0 k
      have hXq:=H7.out.1.trans hX7q
      by_cases hkl:k< K.length
      ·
       have hkI:(k:Int)< (K.length:Int):=by omega
       have hkk:k< h.n.kids.length:=by omega
       have hkkI:(k:Int)< (h.n.kids.length:Int):=by omega
       obtain⟨gk,ok,tk,eka,lgk,hgkp,t0,t1,htk⟩:=step_at HGK.out.2.1 k hkl
       cases eka
       have htn:=step_len HGK.out.2.1 k hkl
       obtain⟨gz,oz,za,zk,eyk,lgz,_,z0c,z1c,z2c,z3c,z4c,hza,hzk⟩:=node_at hyk k hkk
       cases eyk
       have HZN:=Lh (node_len hyk k hkk)
       have HSK0:gatherK h.v (K.drop k) (h.n.kids.drop k) g=gatherK h.v (K.drop (k+1)) (h.n.kids.drop (k+1)) (addS K[k] ⟨h.v,h.n.kids[k]⟩ g):=by rw[drop_one K k hkl,drop_one h.n.kids k hkk,gatherK]
       obtain⟨t,ht⟩:∃t,K[k]=t:=⟨_,rfl⟩
       obtain⟨z,hz⟩:∃z,h.n.kids[k]=z:=⟨_,rfl⟩
       rw[ht]at t0 htk htn HSK0
       rw[hz]at z0c z1c z2c hza hzk HZN HSK0
       have HSK:=Lh HSK0.symm
       obtain⟨ta,tc,rfl,_,_⟩:=htk.count z_str kA
       obtain⟨zaa,zac,rfl,_,_⟩:=hza.count z_attr kA
       obtain⟨zka,zkc,rfl,_,_⟩:=hzk.count z_node kA
       have HZA:=Lh (And.intro hza hzk)
       have hPle:=stepPos_le t g.1
       obtain⟨PO,hPO⟩:∃P,stepPos t g.1=P:=⟨_,rfl⟩
       rw[hPO]at hPle
       have HP0:Hid (0+stepPos t (g.1.drop 0)=PO):=Lh (by rw[←hPO];simp)
       have HPO0:=Lh hPO
       have hgc:g.1.length≤c:=HGK.out.1.2.2.2.1
       have hgm:g.1.length≤16777216:=by omega
       clear ht hz HSK0 hPO hza hzk
       go_wp2_with fail
       go_loopw [19] (fun a wr=>∃j:Nat,a= .int .i64 j∧j≤g.1.length∧Ext wq wr∧Hid (j+stepPos t (g.1.drop j)=PO)) (fun a _=>downV g.1.length a)
       case atStart=>exact⟨0,rfl,Nat.zero_le _,Ext.refl _,HP0⟩
       case round=>
        clear HP0
        obtain⟨j,rfl,hj,hQ,HI⟩:=hrel
        obtain⟨wj,hwj⟩:∃wj,wj=wr:=⟨_,rfl⟩
        subst hwj
        have hj0:=nZ0 j
        have hjm:j≤16777216:=by omega
        have t0j:=hQ.keep lgk t0;have t1j:=hQ.keep lgk t1
        have lgkj:gk< wj.heap.size:=Nat.lt_of_lt_of_le lgk hQ.size
        have htkj:=htk.ext hQ
        have HGj:Hid (GS p w w7 wj (.slice sa g.1.length sc) (.slice da vs.length dc) vs g c∧Rep wj (fun b=>w7.heap.size≤b∧¬Mut (.slice da vs.length dc) vs b) (.slice (some ⟨gk,ok,none⟩) K.length kc) (stepsD K)):=Lh ⟨HGK.out.1.ext hQ,HGK.out.2.1.ext hQ⟩
        clear t0 t1 lgk htk
        have t0:=t0j;have t1:=t1j;have lgk:=lgkj;have htk:=htkj
        clear t0j t1j lgkj htkj
        by_cases hjl:j< g.1.length
        ·
         have hjI:(j:Int)< (g.1.length:Int):=by omega
         have hjg:=hjl
         have hjle:j≤g.1.length:=by omega
         obtain⟨gs,os,yv,esa,lgs,_,y0,y1,hyr⟩:=step_at HGj.out.1.1 j hjl
         cases esa
         have hyn:=step_len HGj.out.1.1 j hjl
         have HS2:Hid (stepPos t (g.1.drop j)=if aheadB g.1[j] t=true then stepPos t (g.1.drop (j+1))+1 else 0):=Lh (by rw[drop_one g.1 j hjl,stepPos_cons])
         have HYS0:=Lh (rfl:stepB g.1[j] t=stepB g.1[j] t)
         obtain⟨y,hy⟩:∃y,g.1[j]=y:=⟨_,rfl⟩
         rw[hy]at y0 hyr hyn HS2
         obtain⟨ya,yc,rfl,_,_⟩:=hyr.count z_str kA
         have HCA:=Lh fun W (hE:Ext wj W)=>ahead_any _ _ y t (.slice ya y.key.length yc) (.slice ta t.key.length tc) W (hyr.ext hE) (htk.ext hE) hyn htn
         have HY:=Lh hy
         obtain⟨B,hB⟩:∃B,aheadB y t=B:=⟨_,rfl⟩
         rw[hB]at HCA HS2
         clear hy hB HYS0
         go_wp2_with fail
         refine rg_begin (S:=Sx wj) kB (Sx.begin _) ?_
         have hSx:Sx wj (World.drew wj):=(Sx.begin _)
         refine gT 0 64 (.int .i64 j) hSx ?_
         simp only[Act.put,sA,sZ,sS]
         refine gT 1 65 (.slice (some ⟨gs,os,none⟩) g.1.length sc) hSx ?_
         simp only[Act.put,sA,sZ,sS]
         refine gT 2 66 (.int .i64 g.1.length) hSx ?_
         simp only[Act.put,sA,sZ,sS]
         refine gT 3 67 (.bool true) hSx ?_
         simp only[Act.put,sA,sZ,sS]
         refine gT 4 68 (.bool true) hSx ?_
         simp only[Act.put,sA,sZ,sS]
         refine gT 5 69 (.slice (some ⟨gs,os,none⟩) g.1.length sc) hSx ?_
         simp only[Act.put,sA,sZ,sS]
         refine gT 6 70 (.int .i64 j) hSx ?_
         simp only[Act.put,sA,sZ,sS]
         refine gT 7 71 (.pointer (some ⟨gs,os+j*2,none⟩)) hSx ?_
         simp only[Act.put,sA,sZ,sS]
         refine gT 8 72 (.agg #[.string (bs y.n),.slice ya y.key.length yc]) hSx ?_ (hv:=fun w' hs=>by(have h0:=hs.cell lgs y0;have h1:=hs.cell lgs y1;go_simp))
         simp only[Act.put,sA,sZ,sS]
         refine gT 9 73 (.slice (some ⟨gk,ok,none⟩) K.length kc) hSx ?_
         simp only[Act.put,sA,sZ,sS]
         refine gT 10 74 (.int .i64 k) hSx ?_
         simp only[Act.put,sA,sZ,sS]
         refine gT 11 75 (.pointer (some ⟨gk,ok+k*2,none⟩)) hSx ?_
         simp only[Act.put,sA,sZ,sS]
         refine gT 12 76 (.agg #[.string (bs t.n),.slice ta t.key.length tc]) hSx ?_ (hv:=fun w' hs=>by(have h0:=hs.cell lgk t0;have h1:=hs.cell lgk t1;go_simp))
         simp only[Act.put,sA,sZ,sS]
         refine rg_call 13 (some 77) 67 #[.agg #[.string (bs y.n),.slice ya y.key.length yc],.agg #[.string (bs t.n),.slice ta t.key.length tc]] rfl rfl kB (by rfl) (fun w'=>by first | rfl | go_simp) (R:=fun v w'=>v= .bool B∧Ext (World.drew wj) w') ?_ ?_
         ·
          refine(HCA.out (World.drew wj) hSx).mono ?_
          rintro e w' ⟨rfl,h⟩
          exact⟨_,rfl,rfl,h⟩
         rintro _ wrx1 ⟨rfl,hBrx1⟩
         have hSx1:=hSx.ext hBrx1
         refine⟨hSx1,?_⟩
         simp only[Act.put,sA,sZ,sS]
         refine gT 14 78 (.bool B) hSx1 ?_
         simp only[Act.put,sA,sZ,sS]
         refine rg_done kB ?_
         cases B with
         | true=>
          have HN:Hid ((j+1)+stepPos t (g.1.drop (j+1))=PO):=Lh (by rw[←HI.out,HS2.out,if_pos rfl];omega)
          have hQ2:Ext wq wrx1:=hQ.trans (show Ext wj wrx1 from hSx1)
          clear HS2 HI y0 y1 lgs t0 t1 lgk HCA hyr
          go_wp2_with fail
          go_roundw
          case rel=>exact⟨j+1,by go_num,by omega,hQ2,HN⟩
          case measure=>exact mZ
         | false=>
          have HPO:Hid (stepPos t g.1=j):=Lh (by rw[HPO0.out,←HI.out,HS2.out,if_neg kD];rfl)
          have hEp:Ext wj wrx1:=hSx1
          have hXp:=(hXq.trans hQ).trans hEp
          have hX7p:=(hX7q.trans hQ).trans hEp
          have HGp:Hid (GS p w w7 wrx1 (.slice (some ⟨gs,os,none⟩) g.1.length sc) (.slice da vs.length dc) vs g c∧Rep wrx1 (fun b=>w7.heap.size≤b∧¬Mut (.slice da vs.length dc) vs b) (.slice (some ⟨gk,ok,none⟩) K.length kc) (stepsD K)):=Lh ⟨HGj.out.1.ext hEp,HGj.out.2.ext hEp⟩
          have y0':=hEp.keep lgs y0;have y1':=hEp.keep lgs y1;have t0':=hEp.keep lgk t0;have t1':=hEp.keep lgk t1
          have lgs':gs< wrx1.heap.size:=Nat.lt_of_lt_of_le lgs hEp.size
          have lgk':gk< wrx1.heap.size:=Nat.lt_of_lt_of_le lgk hEp.size
          have htk':=htk.ext hEp
          have hyr':=hyr.ext hEp
          have HCS:=Lh fun W (hE:Ext wrx1 W)=>step_any _ _ y t (.slice ya y.key.length yc) (.slice ta t.key.length tc) W (hyr'.ext hE) (htk'.ext hE)
          have HYS1:=Lh (show stepB g.1[j] t=stepB y t by rw[HY.out])
          obtain⟨B2,hB2⟩:∃B,stepB y t=B:=⟨_,rfl⟩
          rw[hB2]at HCS HYS1
          have HYS:Hid (stepB g.1[j] t=B2):=HYS1
          have hq2:((j:Int)==(g.1.length:Int))=false:=by rw[beq_eq_false_iff_ne];omega
          clear HS2 HI y0 y1 lgs t0 t1 lgk HCA hyr htk HGj hB2 hEp HY HYS1 hyr'
          have y0:=y0';have y1:=y1';have t0:=t0';have t1:=t1';have lgs:=lgs';have lgk:=lgk';have htk:=htk'
          clear y0' y1' t0' t1' lgs' lgk' htk'
          go_wp2_with fail
          refine rg_begin (S:=Sx wrx1) kB (Sx.begin _) ?_
          have hSy:Sx wrx1 (World.drew wrx1):=(Sx.begin _)
          refine gT 0 81 (.int .i64 j) hSy ?_
          simp only[Act.put,sA,sZ,sS]
          refine gT 1 82 (.slice (some ⟨gs,os,none⟩) g.1.length sc) hSy ?_
          simp only[Act.put,sA,sZ,sS]
          refine gT 2 83 (.int .i64 g.1.length) hSy ?_
          simp only[Act.put,sA,sZ,sS]
          refine gT 3 84 (.bool false) hSy ?_
          simp only[Act.put,sA,sZ,sS]
          refine gT 4 85 (.bool false) hSy ?_
          simp only[Act.put,sA,sZ,sS]
          refine gT 5 86 (.slice (some ⟨gs,os,none⟩) g.1.length sc) hSy ?_
          simp only[Act.put,sA,sZ,sS]
          refine gT 6 87 (.int .i64 j) hSy ?_
          simp only[Act.put,sA,sZ,sS]
          refine gT 7 88 (.pointer (some ⟨gs,os+j*2,none⟩)) hSy ?_
          simp only[Act.put,sA,sZ,sS]
          refine gT 8 89 (.agg #[.string (bs y.n),.slice ya y.key.length yc]) hSy ?_ (hv:=fun w' hs=>by(have h0:=hs.cell lgs y0;have h1:=hs.cell lgs y1;go_simp))
          simp only[Act.put,sA,sZ,sS]
          refine gT 9 90 (.slice (some ⟨gk,ok,none⟩) K.length kc) hSy ?_
          simp only[Act.put,sA,sZ,sS]
          refine gT 10 91 (.int .i64 k) hSy ?_
          simp only[Act.put,sA,sZ,sS]
          refine gT 11 92 (.pointer (some ⟨gk,ok+k*2,none⟩)) hSy ?_
          simp only[Act.put,sA,sZ,sS]
          refine gT 12 93 (.agg #[.string (bs t.n),.slice ta t.key.length tc]) hSy ?_ (hv:=fun w' hs=>by(have h0:=hs.cell lgk t0;have h1:=hs.cell lgk t1;go_simp))
          simp only[Act.put,sA,sZ,sS]
          refine rg_call 13 (some 94) 68 #[.agg #[.string (bs y.n),.slice ya y.key.length yc],.agg #[.string (bs t.n),.slice ta t.key.length tc]] rfl rfl kB (by rfl) (fun w'=>by first | rfl | go_simp) (R:=fun v w'=>v= .bool B2∧Ext (World.drew wrx1) w') ?_ ?_
          ·
           refine(HCS.out (World.drew wrx1) hSy).mono ?_
           rintro e w' ⟨rfl,h⟩
           exact⟨_,rfl,rfl,h⟩
          rintro _ wry1 ⟨rfl,hBry1⟩
          have hSy1:=hSy.ext hBry1
          refine⟨hSy1,?_⟩
          simp only[Act.put,sA,sZ,sS]
          refine gT 14 95 (.bool (!B2)) hSy1 ?_
          simp only[Act.put,sA,sZ,sS]
          refine gT 15 96 (.bool (!B2)) hSy1 ?_
          simp only[Act.put,sA,sZ,sS]
          refine rg_done kB ?_
          have hEi:Ext wrx1 wry1:=hSy1
          have hXi:=hXp.trans hEi
          have hX7i:=hX7p.trans hEi
          have HGi:Hid (GS p w w7 wry1 (.slice (some ⟨gs,os,none⟩) g.1.length sc) (.slice da vs.length dc) vs g c∧Rep wry1 (fun b=>w7.heap.size≤b∧¬Mut (.slice da vs.length dc) vs b) (.slice (some ⟨gk,ok,none⟩) K.length kc) (stepsD K)):=Lh ⟨HGp.out.1.ext hEi,HGp.out.2.ext hEi⟩
          have t0':=hEi.keep lgk t0;have t1':=hEi.keep lgk t1
          have lgk':gk< wry1.heap.size:=Nat.lt_of_lt_of_le lgk hEi.size
          have htk':=htk.ext hEi
          have hE12a:=Ext.refl wry1
          clear t0 t1 lgk htk HGp hEi y0 y1 lgs HCS
          have t0:=t0';have t1:=t1';have lgk:=lgk';have htk:=htk'
          clear t0' t1' lgk' htk'
          cases B2 with
          | true=>
           have HNX:Hid (∀lJ,g.2[j]? =some lJ→addS t ⟨h.v,z⟩ g=(g.1,g.2.set j (lJ++ [⟨h.v,z⟩]))):=Lh fun lJ hlJ=>by
            unfold addS
            rw[HPO.out,if_neg (by
             rintro(e | e)
             ·
              omega
             ·
              rw[List.getD_eq_getElem?_getD,List.getElem?_eq_getElem hjg,Option.getD_some,HYS.out]at e;cases e),modify_set _ _ _ _ hlJ]
           have hXz:=hXi
           have hX7z:=hX7i
           have HQ:Hid (Rep wry1 (fun b=>w7.heap.size≤b∧¬Mut (.slice da vs.length dc) vs b) (.slice (some ⟨gs,os,none⟩) g.1.length sc) (stepsD g.1)∧F2 wry1 (fun b=>p b∧b< w.heap.size) w7.heap.size 96 98 6 heldC (.slice da vs.length dc) vs g.2∧Rep wry1 (fun b=>w7.heap.size≤b∧¬Mut (.slice da vs.length dc) vs b) (.slice (some ⟨gk,ok,none⟩) K.length kc) (stepsD K)∧g.1.length=g.2.length∧g.1.length≤c+1∧∀m∈g.2,m.length≤c):=Lh ⟨HGi.out.1.1,HGi.out.1.2.1,HGi.out.2,HGi.out.1.2.2.1,by have:=HGi.out.1.2.2.2.1;omega,HGi.out.1.2.2.2.2⟩
           have hJ:j< vs.length:=by rw[HGi.out.1.2.1.len,←HGi.out.1.2.2.1];exact hjg
           clear HGi t0 t1 lgk htk hE12a HYS
           go_wp2_with fail
           have hJL:j< g.2.length:=by rw[←HQ.out.2.1.len];exact hJ
           obtain⟨gd,dcn,edv,hgd,hgd2⟩:=own_some HQ.out.2.1.d kA
           cases edv
           have z0':=HQ.out.2.1.d.cellAt j kA
           obtain⟨vJ,hvJ⟩:∃v,vs[j]? =some v:=⟨_,List.getElem?_eq_getElem hJ⟩
           obtain⟨lJ,hlJ⟩:∃v,g.2[j]? =some v:=⟨_,List.getElem?_eq_getElem hJL⟩
           have hlJb:lJ.length≤c:=HQ.out.2.2.2.2.2 lJ (List.mem_of_getElem? hlJ)
           have z0:wry1.cell? ⟨gd,j,none⟩=some vJ:=z0'.trans hvJ
           have zf:=HQ.out.2.1.d.frozenAt j
           obtain⟨usJ,husJ,hrepJ⟩:=(HQ.out.2.1.own j vJ lJ hvJ hlJ).rows
           have hJn:vJ.ownBlock=none∨vJ.ownBlock≠some gd:=HQ.out.2.1.out vJ (List.mem_of_getElem? hvJ)
           have lz0:gd< wry1.heap.size∧some gd≠vJ.ownBlock:=⟨hgd,fun e=>by rcases hJn with h1 | h1;rw[h1]at e;cases e;exact h1 e.symm⟩
           have hJge:∀b,some b=vJ.ownBlock→w7.heap.size≤b:=fun b e=>(own_lt husJ e).1
           have x0:=hXz.keep lgh d0;have x5:=hXz.keep lgh d5
           have hw7s:=H7.out.1.size
           have lx0:gh< wry1.heap.size∧some gh≠vJ.ownBlock:=⟨Nat.lt_of_lt_of_le lgh hXz.size,fun e=>by have:=hJge _ e;omega⟩
           have k0':=hXz.keep lgz z0c;have k1':=hXz.keep lgz z1c;have k2':=hXz.keep lgz z2c;have k3':=hXz.keep lgz z3c;have k4':=hXz.keep lgz z4c
           have lk0:gz< wry1.heap.size∧some gz≠vJ.ownBlock:=⟨Nat.lt_of_lt_of_le lgz hXz.size,fun e=>by have:=hJge _ e;omega⟩
           have HRJ:=Lh hrepJ
           have HVJ:=Lh (And.intro hvJ hlJ)
           have hcJ:lJ.length≤16777216:=by omega
           clear z0' hrepJ hvJ hlJ hJn hJge
           refine region_merge (fun ac ac' w'=>∃(gb:Nat) (v3:Value) (xb:World) (xc:World),ac'=((((((((((((((((((((((((ac.put (some 123) (.slice (some ⟨gd,0,none⟩) vs.length dc)).put (some 124) (.int .i64 j)).put (some 125) (.slice (some ⟨gd,0,none⟩) vs.length dc)).put (some 126) (.int .i64 j)).put (some 127) (.pointer (some ⟨gd,j,none⟩))).put (some 128) (vJ)).put (some 129) (.slice (some ⟨gh,oh,none⟩) hs.length hc)).put (some 130) (.int .i64 i)).put (some 131) (.pointer (some ⟨gh,oh+i*6,none⟩))).put (some 132) (.pointer (some ⟨gh,oh+i*6,none⟩))).put (some 133) (.int .i64 h.v)).put (some 134) (.slice (some ⟨gh,oh,none⟩) hs.length hc)).put (some 135) (.int .i64 i)).put (some 136) (.pointer (some ⟨gh,oh+i*6,none⟩))).put (some 137) (.pointer (some ⟨gh,oh+i*6+1,none⟩))).put (some 138) (.pointer (some ⟨gh,oh+i*6+5,none⟩))).put (some 139) (.slice (some ⟨gz,oz,none⟩) h.n.kids.length ykc)).put (some 140) (.int .i64 k)).put (some 141) (.pointer (some ⟨gz,oz+k*5,none⟩))).put (some 142) (.agg #[.int .i64 z.kind,.string (bs z.name),.string (bs z.text),.slice zaa z.attrs.length zac,.slice zka z.kids.length zkc])).put (some 143) (.agg #[.int .i64 h.v,.int .i64 z.kind,.string (bs z.name),.string (bs z.text),.slice zaa z.attrs.length zac,.slice zka z.kids.length zkc])).put (some 144) (.slice (some ⟨gb,0,none⟩) 1 1)).put (some 145) (v3)).put (some 146) (.pointer (some ⟨gd,j,none⟩)))∧w'=xc.setCell ⟨gd,j,none⟩ v3∧Ext wry1 xb∧World.ownsRow xc w7.heap.size 98 6 v3 (lJ.length+1) (usJ++ [.int .i64 h.v,.int .i64 z.kind,.string (bs z.name),.string (bs z.text),.slice zaa z.attrs.length zac,.slice zka z.kids.length zkc])∧World.grownBy xb xc vJ.ownBlock∧(v3.ownBlock=vJ.ownBlock∨v3.ownBlock=some xb.heap.size)) ?_ ?_
           ·
            refine rg_aside (S := Sr vJ wry1) 24 ⟨none, .store 96 (.tmp 146) (.tmp 145), 0, "ref.go:81", #[⟨23, .data⟩, ⟨22, .data⟩, ⟨22, .chain⟩, ⟨0, .phase⟩, ⟨1, .phase⟩, ⟨2, .phase⟩, ⟨3, .phase⟩, ⟨4, .phase⟩, ⟨5, .phase⟩, ⟨6, .phase⟩, ⟨7, .phase⟩, ⟨8, .phase⟩, ⟨9, .phase⟩, ⟨10, .phase⟩, ⟨11, .phase⟩, ⟨12, .phase⟩, ⟨13, .phase⟩, ⟨14, .phase⟩, ⟨15, .phase⟩, ⟨16, .phase⟩, ⟨17, .phase⟩, ⟨18, .phase⟩, ⟨19, .phase⟩, ⟨20, .phase⟩, ⟨21, .phase⟩, ⟨22, .phase⟩], none⟩ kB kD rfl rfl kB kB (Sr.begin _ _) ?_
            have hSq:Sr vJ wry1 (World.drew wry1):=(Sr.begin _ _)
            simp only[List.setIfInBounds_toArray,List.set_cons_zero,List.set_cons_succ]
            refine gT 0 123 (.slice (some ⟨gd,0,none⟩) vs.length dc) hSq ?_
            simp only[Act.put,sA,sZ,sS]
            refine gT 1 124 (.int .i64 j) hSq ?_
            simp only[Act.put,sA,sZ,sS]
            refine gT 2 125 (.slice (some ⟨gd,0,none⟩) vs.length dc) hSq ?_
            simp only[Act.put,sA,sZ,sS]
            refine gT 3 126 (.int .i64 j) hSq ?_
            simp only[Act.put,sA,sZ,sS]
            refine gT 4 127 (.pointer (some ⟨gd,j,none⟩)) hSq ?_
            simp only[Act.put,sA,sZ,sS]
            refine gT 5 128 (vJ) hSq ?_ (hv:=fun w' hs=>by(have h0:=hs.cell lz0 z0;go_simp))
            simp only[Act.put,sA,sZ,sS]
            refine gT 6 129 (.slice (some ⟨gh,oh,none⟩) hs.length hc) hSq ?_
            simp only[Act.put,sA,sZ,sS]
            refine gT 7 130 (.int .i64 i) hSq ?_
            simp only[Act.put,sA,sZ,sS]
            refine gT 8 131 (.pointer (some ⟨gh,oh+i*6,none⟩)) hSq ?_
            simp only[Act.put,sA,sZ,sS]
            refine gT 9 132 (.pointer (some ⟨gh,oh+i*6,none⟩)) hSq ?_
            simp only[Act.put,sA,sZ,sS]
            refine gT 10 133 (.int .i64 h.v) hSq ?_ (hv:=fun w' hs=>by(have h0:=hs.cell lx0 x0;go_simp))
            simp only[Act.put,sA,sZ,sS]
            refine gT 11 134 (.slice (some ⟨gh,oh,none⟩) hs.length hc) hSq ?_
            simp only[Act.put,sA,sZ,sS]
            refine gT 12 135 (.int .i64 i) hSq ?_
            simp only[Act.put,sA,sZ,sS]
            refine gT 13 136 (.pointer (some ⟨gh,oh+i*6,none⟩)) hSq ?_
            simp only[Act.put,sA,sZ,sS]
            refine gT 14 137 (.pointer (some ⟨gh,oh+i*6+1,none⟩)) hSq ?_
            simp only[Act.put,sA,sZ,sS]
            refine gT 15 138 (.pointer (some ⟨gh,oh+i*6+5,none⟩)) hSq ?_
            simp only[Act.put,sA,sZ,sS]
            refine gT 16 139 (.slice (some ⟨gz,oz,none⟩) h.n.kids.length ykc) hSq ?_ (hv:=fun w' hs=>by(have h0:=hs.cell lx0 x5;go_simp))
            simp only[Act.put,sA,sZ,sS]
            refine gT 17 140 (.int .i64 k) hSq ?_
            simp only[Act.put,sA,sZ,sS]
            refine gT 18 141 (.pointer (some ⟨gz,oz+k*5,none⟩)) hSq ?_
            simp only[Act.put,sA,sZ,sS]
            refine gT 19 142 (.agg #[.int .i64 z.kind,.string (bs z.name),.string (bs z.text),.slice zaa z.attrs.length zac,.slice zka z.kids.length zkc]) hSq ?_ (hv:=fun w' hs=>by(have h0:=hs.cell lk0 k0';have h1:=hs.cell lk0 k1';have h2:=hs.cell lk0 k2';have h3:=hs.cell lk0 k3';have h4:=hs.cell lk0 k4';go_simp))
            simp only[Act.put,sA,sZ,sS]
            refine gT 20 143 (.agg #[.int .i64 h.v,.int .i64 z.kind,.string (bs z.name),.string (bs z.text),.slice zaa z.attrs.length zac,.slice zka z.kids.length zkc]) hSq ?_
            simp only[Act.put,sA,sZ,sS]
            refine rg_one 21 kB ?_
            refine tk_new 21 (some 144) (.cells #[.int .i64 h.v,.int .i64 z.kind,.string (bs z.name),.string (bs z.text),.slice zaa z.attrs.length zac,.slice zka z.kids.length zkc] 98) (fun n=> .slice (some ⟨n,0,none⟩) 1 1) rfl rfl (by rfl) kF ?_
            intro gb xb egb hxb hzxb hC
            have hSb:Sr vJ wry1 xb:=hSq.ext hxb
            refine⟨hSb,?_⟩
            simp only[Act.put,sA,sZ,sS]
            have hEb:Ext wry1 xb:=((Ext.refl wry1).drew).trans hxb
            have hbse:w7.heap.size≤xb.heap.size:=Nat.le_trans hX7z.size hEb.size
            refine rg_one 22 kB ?_
            refine tk_src 22 (some 145) rfl rfl (by rfl) (.tmp 128) (.tmp 144) 96 rfl w7.heap.size 98 k0 (.agg #[.int .i64 0,.int .i64 0,.string ⟨#[]⟩,.string ⟨#[]⟩,.slice none 0 0,.slice none 0 0]) 6 96 Tryz.underlying96 ki kz0 kz1 kz2 rfl kD vJ lJ.length usJ rfl (rows_ext husJ hEb) (.slice (some ⟨gb,0,none⟩) 1 1) 1 [.int .i64 h.v,.int .i64 z.kind,.string (bs z.name),.string (bs z.text),.slice zaa z.attrs.length zac,.slice zka z.kids.length zkc] rfl (Src.block hC rfl) kP kC kA hbse ?_
            intro v3 xc hr3 hg3 ha3
            have hSc:Sr vJ wry1 xc:=hSb.grown hg3
            refine⟨hSc,?_⟩
            simp only[Act.put,sA,sZ,sS]
            refine gT 23 146 (.pointer (some ⟨gd,j,none⟩)) hSc ?_
            simp only[Act.put,sA,sZ,sS]
            refine rg_t 24 none (.bool true) rfl hSc (fun w' hs=>by rfl) ?_
            simp only[Act.put,sA,sZ,sS]
            refine rg_done kB ?_
            obtain⟨v3a,v3c,rfl⟩:=own_form hr3
            have a4c:=hSc.cell lz0 z0
            have a4f:=hSc.free lz0 zf
            refine qlast_normal ?_
            refine tk_write 24 none (xc.setCell ⟨gd,j,none⟩ (.slice v3a (lJ.length+1) v3c)) (by rfl) rfl (by rfl) (exec_store rfl (store_slice _ s1Helds a4c a4f _ _ _)) ?_
            exact⟨gb,(.slice v3a (lJ.length+1) v3c),xb,xc,kH,rfl,hEb,hr3,hg3,ha3⟩
           rintro _ w9 ⟨gb,v3,xb,xc,rfl,hw9,hEb,hr3,hg3,ha3⟩
           simp only[Act.put,sA,sZ,sS]
           have HP9:Hid (F2 w9 (fun b=>p b∧b< w.heap.size) w7.heap.size 96 98 6 heldC (.slice (some ⟨gd,0,none⟩) vs.length dc) (vs.set j v3) (g.2.set j (lJ++ [⟨h.v,z⟩]))∧Rep w9 (fun b=>w7.heap.size≤b∧¬Mut (.slice (some ⟨gd,0,none⟩) vs.length dc) (vs.set j v3) b) (.slice (some ⟨gs,os,none⟩) g.1.length sc) (stepsD g.1)∧Rep w9 (fun b=>w7.heap.size≤b∧¬Mut (.slice (some ⟨gd,0,none⟩) vs.length dc) (vs.set j v3) b) (.slice (some ⟨gk,ok,none⟩) K.length kc) (stepsD K)∧Ext w7 w9):=by
            obtain⟨hSV,hF,hKV,_⟩:=HQ.out
            have hvm:vJ∈vs:=List.mem_of_getElem? HVJ.out.1
            have hws:=H7.out.1.size
            have hXb:=hXz.trans hEb
            have hok:∀b,p b∧b< w.heap.size→p b∧b< w.heap.size:=fun b hb=>hb
            obtain⟨hF9,hM9⟩:=hF.push hEb hX7z.size (fun b hb=>by have:=hb.2;omega) j vJ lJ HVJ.out.1 HVJ.out.2 ⟨h.v,z⟩ HRJ.out (by
             unfold heldC
             rw[nodeC_eq]
             exact Reps.cons (Rep.int _ _ _ _) (Reps.cons (Rep.int _ _ _ _) (Reps.cons (Rep.string _ _ _ (by rw[bs_size];exact HZN.out.1)) (Reps.cons (Rep.string _ _ _ (by rw[bs_size];exact HZN.out.2)) (Reps.cons (HZA.out.1.lt.ext hXb) (Reps.cons (HZA.out.2.lt.ext hXb) (Reps.nil _ _))))))) hr3 hg3 ha3 rfl
            have hfr:=hF.frame (w1:=xb) (w2:=xc) (v2:=v3) (i:=j) hvm hg3 rfl
            have hs9:xb.heap.size≤w9.heap.size:=by rw[hw9];simpa using hg3.size
            rw[←hw9]at hF9 hfr
            have hrep:∀(v:Value) (d:DV),Rep wry1 (fun b=>w7.heap.size≤b∧¬Mut (.slice (some ⟨gd,0,none⟩) vs.length dc) vs b) v d→Rep w9 (fun b=>w7.heap.size≤b∧¬Mut (.slice (some ⟨gd,0,none⟩) vs.length dc) (vs.set j v3) b) v d:=fun v d hv=>
             ((hv.lt.ext hEb).kept fun b hb hlt=>hfr b hb.1.2 hlt).ok fun b hb=>⟨hb.1.1,fun hm=>by
              rcases hM9 b hm with hm | hm
              ·
               exact hb.1.2 hm
              ·
               have:=hb.2;have:=hEb.size;omega⟩
            refine Lh ⟨hF9,hrep _ _ hSV,hrep _ _ hKV,?_⟩
            rw[hw9]
            have hx8:Ext w7 xc:=Below.grown (hX7z.trans hEb) hg3 (Below.size (hX7z.trans hEb)) fun k hk=>(own_lt husJ hk.symm).1
            exact hx8.set hgd2 _
           have HL9:Hid (g.1.length=(g.2.set j (lJ++ [⟨h.v,z⟩])).length∧g.1.length≤c+1∧∀m∈g.2.set j (lJ++ [⟨h.v,z⟩]),m.length≤c+1):=Lh ⟨by rw[List.length_set];exact HQ.out.2.2.2.1,HQ.out.2.2.2.2.1,fun m hm=>by
            rcases List.mem_or_eq_of_mem_set hm with hm | e
            ·
             have:=HQ.out.2.2.2.2.2 m hm;omega
            ·
             rw[e];simp;exact hlJb⟩
           have HN9:Hid (gatherK h.v (K.drop (k+1)) (h.n.kids.drop (k+1)) (g.1,g.2.set j (lJ++ [⟨h.v,z⟩]))=RK):=Lh qB
           clear HQ HRJ HVJ hr3 hg3 ha3 hEb husJ z0 zf x0 x5 k0' k1' k2' k3' k4' lz0 lx0 lk0 HNX hw9 HSK HGK
           go_wp2_with fail
           go_roundw
           case rel=>exact⟨k+1,(some ⟨gs,os,none⟩),sc,some ⟨gd,0,none⟩,dc,(g.1,g.2.set j (lJ++ [⟨h.v,z⟩])),vs.set j v3,c+1,by go_num,rfl,by rw[List.length_set],by omega,by omega,HP9.out.2.2.2,Lh ⟨⟨by rw[List.length_set];exact HP9.out.2.1,by rw[List.length_set];exact HP9.out.1,HL9.out⟩,by rw[List.length_set];exact HP9.out.2.2.1,HN9.out⟩⟩
           case measure=>exact mZ
          | false=>
           have hNIN:Hid (addS t ⟨h.v,z⟩ g=(insAt g.1 j t,insAt g.2 j [⟨h.v,z⟩])):=Lh (by
            unfold addS
            rw[HPO.out,if_pos (.inr (by rw[List.getD_eq_getElem?_getD,List.getElem?_eq_getElem hjg,Option.getD_some];exact HYS.out))])
           clear HYS
           go_wp2_with fail
           obtain⟨us,hus,hul,hTk,hDr,_⟩:=rep_src HGi.out.1.1 unStep szStep
           obtain⟨vt,hvt,evt⟩:=hTk j hjle
           obtain⟨vd,hvd,evd⟩:=hDr j hjle
           have h1u:=hus.one (flat_one one_step g.1)
           clear hTk hDr
           refine rg_begin (S:=Sx wry1) kB (Sx.begin _) ?_
           have hSs:Sx wry1 (World.drew wry1):=(Sx.begin _)
           refine gT 1 98 (.slice (some ⟨gs,os,none⟩) g.1.length sc) hSs ?_
           simp only[Act.put,sA,sZ,sS]
           refine gT 2 99 (.int .i64 j) hSs ?_
           simp only[Act.put,sA,sZ,sS]
           refine gT 3 100 (vt) hSs ?_ (hv:=fun w' hs=>by exact exec_slice rfl (evt w'))
           simp only[Act.put,sA,sZ,sS]
           refine gT 5 102 (.slice (some ⟨gk,ok,none⟩) K.length kc) hSs ?_
           simp only[Act.put,sA,sZ,sS]
           refine gT 6 103 (.int .i64 k) hSs ?_
           simp only[Act.put,sA,sZ,sS]
           refine gT 7 104 (.pointer (some ⟨gk,ok+k*2,none⟩)) hSs ?_
           simp only[Act.put,sA,sZ,sS]
           refine gT 8 105 (.agg #[.string (bs t.n),.slice ta t.key.length tc]) hSs ?_ (hv:=fun w' hs=>by(have h0:=hs.cell lgk t0;have h1:=hs.cell lgk t1;go_simp))
           simp only[Act.put,sA,sZ,sS]
           refine gT 11 108 (.slice (some ⟨gs,os,none⟩) g.1.length sc) hSs ?_
           simp only[Act.put,sA,sZ,sS]
           refine gT 12 109 (.int .i64 j) hSs ?_
           simp only[Act.put,sA,sZ,sS]
           refine gT 13 110 (vd) hSs ?_ (hv:=fun w' hs=>by exact exec_slice rfl (evd w'))
           simp only[Act.put,sA,sZ,sS]
           refine rg_row 0 9 4 10 97 106 101 107 100 105 134 101 j0 (.agg #[.string ⟨#[]⟩,.slice none 0 0]) 2 40 rfl rfl rfl rfl Tryz.underlying134 ji jz0 jz1 jz2 rfl kD (.agg #[.string (bs t.n),.slice ta t.key.length tc]) (vt) [.string (bs t.n),.slice ta t.key.length tc] ((us.take (j*2))) (j) rfl rfl (hvt.ext hSs) (fun u hu=>h1u u (List.mem_of_mem_take hu)) kG rfl kA kD (fun w' h=>hSs.ext h) (fun ev W=>by first | rfl | go_simp) (fun ev W hK hX=>by first | rfl | go_simp) ?_
           intro gas gbs v2s v3s wxs hEs hrs hSs
           simp only[Act.put,sA,sZ,sS]
           have hrs:=(show World.ownsRow wxs wry1.heap.size _ _ _ _ _ from hrs)
           refine rg_one 14 kB ?_
           refine tk_src 14 (some 111) rfl rfl (by rfl) (.tmp 107) (.tmp 110) 134 rfl wry1.heap.size 101 j0 (.agg #[.string ⟨#[]⟩,.slice none 0 0]) 2 40 Tryz.underlying134 ji jz0 jz1 jz2 rfl kD v3s (j+1) ((us.take (j*2))++([.string (bs t.n),.slice ta t.key.length tc]:List Value)) rfl hrs vd (g.1.length - j) (us.drop (j*2)) rfl (hvd.ext (show Ext wry1 wxs from hSs)) (fun u hu=>h1u u (List.mem_of_mem_drop hu)) kC kA (show Ext wry1 wxs from hSs).size ?_
           intro v4s w12 hr12 hg4s ha4s
           have hS12:Sx wry1 w12:=sx_grown hSs hrs hg4s
           refine⟨hS12,?_⟩
           simp only[Act.put,sA,sZ,sS]
           clear hrs hSs hEs hg4s ha4s
           refine gT 15 14 (v4s) hS12 ?_
           simp only[Act.put,sA,sZ,sS]
           refine rg_done kB ?_
           have hE12:Ext wry1 w12:=hS12
           have hKw:=HGi.out.2
           have hF12:=HGi.out.1.2.1.ext hE12
           have hlenv:vs.length=g.1.length:=by rw[HGi.out.1.2.1.len,HGi.out.1.2.2.1]
           have hjv:j≤vs.length:=by omega
           have hS12r:Rep w12 (fun b=>(w7.heap.size≤b∧¬Mut (.slice da vs.length dc) vs b)∧b< w12.heap.size) v4s (stepsD (insAt g.1 j t)):=((Rep.ins z_step hus (Reps.cons (Rep.string _ _ _ (by rw[bs_size];exact htn)) (Reps.cons (htk.ext hE12a) (Reps.nil _ _)):Reps wry1 (fun b=>w7.heap.size≤b∧¬Mut (.slice da vs.length dc) vs b) [.string (bs t.n),.slice ta t.key.length tc] (stepC t)) hE12 hr12).lt.ok fun b hb=>⟨hb.1.elim (fun h=>h) (fun h=>⟨Nat.le_trans hX7i.size h,fun hm=>by have:=(HGi.out.1.2.1.mut_lt hm).2;omega⟩),hb.2⟩)
           obtain⟨S2,hS2⟩:∃S,insAt g.1 j t=S:=⟨_,rfl⟩
           have hS2l:S2.length=g.1.length+1:=by rw[←hS2,insAt_len]
           rw[hS2]at hS12r
           obtain⟨s4a,s4c,rfl,_,_⟩:=hS12r.count z_step kA
           obtain⟨vt2,hvt2,evt2⟩:=src_take hF12.d unHelds szHelds j hjv
           obtain⟨vd2,hvd2,evd2⟩:=src_drop hF12.d unHelds szHelds j hjv
           have h1v:∀u∈vs,u.oneCell'=true:=fun u hu=>by
            obtain⟨_,n',us',_,hro⟩:=hF12.ownAt hu
            obtain⟨o,c',rfl⟩:=own_form hro
            rfl
           have hvsm:vs.length≤16777216:=by omega
           have HIN:=Lh (And.intro hF12 (And.intro hS12r (And.intro hKw hlenv)))
           have hw12s:wry1.heap.size≤w12.heap.size:=hE12.size
           have HGL:=Lh (And.intro HGi.out.1.2.2.1 (And.intro HGi.out.1.2.2.2.1 HGi.out.1.2.2.2.2))
           have HE12:=Lh hE12
           clear hus hul hvt evt hvd evd h1u hr12 hS12r hF12 hKw hlenv htk hE12a t0 t1 lgk HGi hS12
           go_wp2_with fail
           refine rg_begin (S:=Sx w12) kB (Sx.begin _) ?_
           have hSm:Sx w12 (World.drew w12):=(Sx.begin _)
           refine gT 1 113 (.slice da vs.length dc) hSm ?_
           simp only[Act.put,sA,sZ,sS]
           refine gT 2 114 (.int .i64 j) hSm ?_
           simp only[Act.put,sA,sZ,sS]
           refine gT 3 115 (vt2) hSm ?_ (hv:=fun w' hs=>by exact exec_slice rfl (evt2 w'))
           simp only[Act.put,sA,sZ,sS]
           refine gT 7 119 (.slice da vs.length dc) hSm ?_
           simp only[Act.put,sA,sZ,sS]
           refine gT 8 120 (.int .i64 j) hSm ?_
           simp only[Act.put,sA,sZ,sS]
           refine gT 9 121 (vd2) hSm ?_ (hv:=fun w' hs=>by exact exec_slice rfl (evd2 w'))
           simp only[Act.put,sA,sZ,sS]
           refine rg_row 0 5 4 6 112 117 116 118 115 115 135 96 m0 (.slice none 0 0) 1 24 rfl rfl rfl rfl Tryz.underlying135 mi mz0 mz1 mz2 rfl kD (vt2) (vt2) [.slice none 0 0] ((vs.take (j*1))) (j) rfl rfl (hvt2.ext hSm) (fun u hu=>h1v u (List.mem_of_mem_take hu)) kT rfl kA kD (fun w' h=>hSm.ext h) (fun ev W=>by first | rfl | go_simp) (fun ev W hK hX=>by first | rfl | go_simp) ?_
           intro gam gbm v2m v3m wxm hEm hrm hSm
           simp only[Act.put,sA,sZ,sS]
           have hrm:=(show World.ownsRow wxm w12.heap.size _ _ _ _ _ from hrm)
           refine rg_one 10 kB ?_
           refine tk_src 10 (some 122) rfl rfl (by rfl) (.tmp 118) (.tmp 121) 135 rfl w12.heap.size 96 m0 (.slice none 0 0) 1 24 Tryz.underlying135 mi mz0 mz1 mz2 rfl kD v3m (j+1) ((vs.take (j*1))++([.slice none 0 0]:List Value)) rfl hrm vd2 (vs.length - j) (vs.drop (j*1)) rfl (hvd2.ext (show Ext w12 wxm from hSm)) (fun u hu=>h1v u (List.mem_of_mem_drop hu)) kC kA (show Ext w12 wxm from hSm).size ?_
           intro v4m w13 hr13 hg4m ha4m
           have hS13:Sx w12 w13:=sx_grown hSm hrm hg4m
           refine⟨hS13,?_⟩
           simp only[Act.put,sA,sZ,sS]
           clear hrm hSm hEm hg4m ha4m
           refine gT 11 15 (v4m) hS13 ?_
           simp only[Act.put,sA,sZ,sS]
           refine rg_done kB ?_
           have hE13:Ext w12 w13:=hS13
           have hins:w13.ownsRow w12.heap.size 96 1 v4m (vs.length+1) (insAt vs j (.slice none 0 0)):=by
            have e1:j+1+(vs.length - j)=vs.length+1:=by omega
            have e2:vs.take (j*1)++([.slice none 0 0]:List Value)++vs.drop (j*1)=insAt vs j (.slice none 0 0):=by unfold insAt;rw[Nat.mul_one,List.append_assoc];rfl
            rw[←e1,←e2];exact hr13
           obtain⟨hF13,hM13⟩:=HIN.out.1.ins hE13 (Nat.le_trans hX7i.size hw12s) j hjv hins
           obtain⟨d4a,d4c,rfl⟩:=own_form hr13
           obtain⟨vs2,hvs2⟩:∃x,insAt vs j (.slice none 0 0)=x:=⟨_,rfl⟩
           have hvs2l:j+1+(vs.length - j)=vs2.length:=by rw[←hvs2,insAt_len];omega
           obtain⟨L2,hL2⟩:∃x,insAt g.2 j ([]:List Held)=x:=⟨_,rfl⟩
           rw[hvs2,hL2,hvs2l]at hF13
           rw[hvs2,hvs2l]at hM13
           rw[hvs2l]
           have hXz:Ext w w13:=(hXi.trans HE12.out).trans hE13
           have hX7z:Ext w7 w13:=(hX7i.trans HE12.out).trans hE13
           have hjg2:j≤g.2.length:=by have:=HGL.out.1;omega
           have HNX:Hid (∀lJ,L2[j]? =some lJ→addS t ⟨h.v,z⟩ g=(S2,L2.set j (lJ++ [⟨h.v,z⟩]))):=Lh fun lJ hlJ=>by
            rw[←hL2,insAt_at _ _ _ hjg2]at hlJ
            cases hlJ
            rw[hNIN.out,←hL2,insAt_set _ _ _ _ hjg2,hS2];rfl
           have hrep13:∀(v:Value) (d:DV),Rep w13 (fun b=>(w7.heap.size≤b∧¬Mut (.slice da vs.length dc) vs b)∧b< w12.heap.size) v d→Rep w13 (fun b=>w7.heap.size≤b∧¬Mut (.slice d4a vs2.length d4c) vs2 b) v d:=fun v d hv=>hv.ok fun b hb=>⟨hb.1.1,fun hm=>by
            rcases hM13 b hm with hm | hm
            ·
             exact hb.1.2 hm
            ·
             omega⟩
           have HQ:Hid (Rep w13 (fun b=>w7.heap.size≤b∧¬Mut (.slice d4a vs2.length d4c) vs2 b) (.slice s4a S2.length s4c) (stepsD S2)∧F2 w13 (fun b=>p b∧b< w.heap.size) w7.heap.size 96 98 6 heldC (.slice d4a vs2.length d4c) vs2 L2∧Rep w13 (fun b=>w7.heap.size≤b∧¬Mut (.slice d4a vs2.length d4c) vs2 b) (.slice (some ⟨gk,ok,none⟩) K.length kc) (stepsD K)∧S2.length=L2.length∧S2.length≤c+1∧∀m∈L2,m.length≤c):=Lh ⟨hrep13 _ _ (HIN.out.2.1.ext hE13),hF13,hrep13 _ _ ((HIN.out.2.2.1.lt.ext (HE12.out.trans hE13)).ok fun b hb=>⟨hb.1,by omega⟩),by rw[hS2l,←hL2,insAt_len,HGL.out.1],by rw[hS2l];have:=HGL.out.2.1;omega,fun m hm=>by
            rw[←hL2]at hm
            rcases (mem_insAt _ _ _ _).1 hm with e | hm
            ·
             rw[e];exact Nat.zero_le _
            ·
             exact HGL.out.2.2 m hm⟩
           have hJ:j< vs2.length:=by omega
           clear hF13 hM13 hins hr13 hE13 hS13 HIN HGL hS2 hS2l hvs2 hvs2l hL2 hrep13 hvt2 evt2 hvd2 evd2 h1v hNIN HE12
           go_wp2_with fail
           have hJL:j< L2.length:=by rw[←HQ.out.2.1.len];exact hJ
           obtain⟨gd,dcn,edv,hgd,hgd2⟩:=own_some HQ.out.2.1.d kA
           cases edv
           have z0':=HQ.out.2.1.d.cellAt j kA
           obtain⟨vJ,hvJ⟩:∃v,vs2[j]? =some v:=⟨_,List.getElem?_eq_getElem hJ⟩
           obtain⟨lJ,hlJ⟩:∃v,L2[j]? =some v:=⟨_,List.getElem?_eq_getElem hJL⟩
           have hlJb:lJ.length≤c:=HQ.out.2.2.2.2.2 lJ (List.mem_of_getElem? hlJ)
           have z0:w13.cell? ⟨gd,j,none⟩=some vJ:=z0'.trans hvJ
           have zf:=HQ.out.2.1.d.frozenAt j
           obtain⟨usJ,husJ,hrepJ⟩:=(HQ.out.2.1.own j vJ lJ hvJ hlJ).rows
           have hJn:vJ.ownBlock=none∨vJ.ownBlock≠some gd:=HQ.out.2.1.out vJ (List.mem_of_getElem? hvJ)
           have lz0:gd< w13.heap.size∧some gd≠vJ.ownBlock:=⟨hgd,fun e=>by rcases hJn with h1 | h1;rw[h1]at e;cases e;exact h1 e.symm⟩
           have hJge:∀b,some b=vJ.ownBlock→w7.heap.size≤b:=fun b e=>(own_lt husJ e).1
           have x0:=hXz.keep lgh d0;have x5:=hXz.keep lgh d5
           have hw7s:=H7.out.1.size
           have lx0:gh< w13.heap.size∧some gh≠vJ.ownBlock:=⟨Nat.lt_of_lt_of_le lgh hXz.size,fun e=>by have:=hJge _ e;omega⟩
           have k0':=hXz.keep lgz z0c;have k1':=hXz.keep lgz z1c;have k2':=hXz.keep lgz z2c;have k3':=hXz.keep lgz z3c;have k4':=hXz.keep lgz z4c
           have lk0:gz< w13.heap.size∧some gz≠vJ.ownBlock:=⟨Nat.lt_of_lt_of_le lgz hXz.size,fun e=>by have:=hJge _ e;omega⟩
           have HRJ:=Lh hrepJ
           have HVJ:=Lh (And.intro hvJ hlJ)
           have hcJ:lJ.length≤16777216:=by omega
           clear z0' hrepJ hvJ hlJ hJn hJge
           refine region_merge (fun ac ac' w'=>∃(gb:Nat) (v3:Value) (xb:World) (xc:World),ac'=((((((((((((((((((((((((ac.put (some 123) (.slice (some ⟨gd,0,none⟩) vs2.length d4c)).put (some 124) (.int .i64 j)).put (some 125) (.slice (some ⟨gd,0,none⟩) vs2.length d4c)).put (some 126) (.int .i64 j)).put (some 127) (.pointer (some ⟨gd,j,none⟩))).put (some 128) (vJ)).put (some 129) (.slice (some ⟨gh,oh,none⟩) hs.length hc)).put (some 130) (.int .i64 i)).put (some 131) (.pointer (some ⟨gh,oh+i*6,none⟩))).put (some 132) (.pointer (some ⟨gh,oh+i*6,none⟩))).put (some 133) (.int .i64 h.v)).put (some 134) (.slice (some ⟨gh,oh,none⟩) hs.length hc)).put (some 135) (.int .i64 i)).put (some 136) (.pointer (some ⟨gh,oh+i*6,none⟩))).put (some 137) (.pointer (some ⟨gh,oh+i*6+1,none⟩))).put (some 138) (.pointer (some ⟨gh,oh+i*6+5,none⟩))).put (some 139) (.slice (some ⟨gz,oz,none⟩) h.n.kids.length ykc)).put (some 140) (.int .i64 k)).put (some 141) (.pointer (some ⟨gz,oz+k*5,none⟩))).put (some 142) (.agg #[.int .i64 z.kind,.string (bs z.name),.string (bs z.text),.slice zaa z.attrs.length zac,.slice zka z.kids.length zkc])).put (some 143) (.agg #[.int .i64 h.v,.int .i64 z.kind,.string (bs z.name),.string (bs z.text),.slice zaa z.attrs.length zac,.slice zka z.kids.length zkc])).put (some 144) (.slice (some ⟨gb,0,none⟩) 1 1)).put (some 145) (v3)).put (some 146) (.pointer (some ⟨gd,j,none⟩)))∧w'=xc.setCell ⟨gd,j,none⟩ v3∧Ext w13 xb∧World.ownsRow xc w7.heap.size 98 6 v3 (lJ.length+1) (usJ++ [.int .i64 h.v,.int .i64 z.kind,.string (bs z.name),.string (bs z.text),.slice zaa z.attrs.length zac,.slice zka z.kids.length zkc])∧World.grownBy xb xc vJ.ownBlock∧(v3.ownBlock=vJ.ownBlock∨v3.ownBlock=some xb.heap.size)) ?_ ?_
           ·
            refine rg_aside (S := Sr vJ w13) 24 ⟨none, .store 96 (.tmp 146) (.tmp 145), 0, "ref.go:81", #[⟨23, .data⟩, ⟨22, .data⟩, ⟨22, .chain⟩, ⟨0, .phase⟩, ⟨1, .phase⟩, ⟨2, .phase⟩, ⟨3, .phase⟩, ⟨4, .phase⟩, ⟨5, .phase⟩, ⟨6, .phase⟩, ⟨7, .phase⟩, ⟨8, .phase⟩, ⟨9, .phase⟩, ⟨10, .phase⟩, ⟨11, .phase⟩, ⟨12, .phase⟩, ⟨13, .phase⟩, ⟨14, .phase⟩, ⟨15, .phase⟩, ⟨16, .phase⟩, ⟨17, .phase⟩, ⟨18, .phase⟩, ⟨19, .phase⟩, ⟨20, .phase⟩, ⟨21, .phase⟩, ⟨22, .phase⟩], none⟩ kB kD rfl rfl kB kB (Sr.begin _ _) ?_
            have hSq:Sr vJ w13 (World.drew w13):=(Sr.begin _ _)
            simp only[List.setIfInBounds_toArray,List.set_cons_zero,List.set_cons_succ]
            refine gT 0 123 (.slice (some ⟨gd,0,none⟩) vs2.length d4c) hSq ?_
            simp only[Act.put,sA,sZ,sS]
            refine gT 1 124 (.int .i64 j) hSq ?_
            simp only[Act.put,sA,sZ,sS]
            refine gT 2 125 (.slice (some ⟨gd,0,none⟩) vs2.length d4c) hSq ?_
            simp only[Act.put,sA,sZ,sS]
            refine gT 3 126 (.int .i64 j) hSq ?_
            simp only[Act.put,sA,sZ,sS]
            refine gT 4 127 (.pointer (some ⟨gd,j,none⟩)) hSq ?_
            simp only[Act.put,sA,sZ,sS]
            refine gT 5 128 (vJ) hSq ?_ (hv:=fun w' hs=>by(have h0:=hs.cell lz0 z0;go_simp))
            simp only[Act.put,sA,sZ,sS]
            refine gT 6 129 (.slice (some ⟨gh,oh,none⟩) hs.length hc) hSq ?_
            simp only[Act.put,sA,sZ,sS]
            refine gT 7 130 (.int .i64 i) hSq ?_
            simp only[Act.put,sA,sZ,sS]
            refine gT 8 131 (.pointer (some ⟨gh,oh+i*6,none⟩)) hSq ?_
            simp only[Act.put,sA,sZ,sS]
            refine gT 9 132 (.pointer (some ⟨gh,oh+i*6,none⟩)) hSq ?_
            simp only[Act.put,sA,sZ,sS]
            refine gT 10 133 (.int .i64 h.v) hSq ?_ (hv:=fun w' hs=>by(have h0:=hs.cell lx0 x0;go_simp))
            simp only[Act.put,sA,sZ,sS]
            refine gT 11 134 (.slice (some ⟨gh,oh,none⟩) hs.length hc) hSq ?_
            simp only[Act.put,sA,sZ,sS]
            refine gT 12 135 (.int .i64 i) hSq ?_
            simp only[Act.put,sA,sZ,sS]
            refine gT 13 136 (.pointer (some ⟨gh,oh+i*6,none⟩)) hSq ?_
            simp only[Act.put,sA,sZ,sS]
            refine gT 14 137 (.pointer (some ⟨gh,oh+i*6+1,none⟩)) hSq ?_
            simp only[Act.put,sA,sZ,sS]
            refine gT 15 138 (.pointer (some ⟨gh,oh+i*6+5,none⟩)) hSq ?_
            simp only[Act.put,sA,sZ,sS]
            refine gT 16 139 (.slice (some ⟨gz,oz,none⟩) h.n.kids.length ykc) hSq ?_ (hv:=fun w' hs=>by(have h0:=hs.cell lx0 x5;go_simp))
            simp only[Act.put,sA,sZ,sS]
            refine gT 17 140 (.int .i64 k) hSq ?_
            simp only[Act.put,sA,sZ,sS]
            refine gT 18 141 (.pointer (some ⟨gz,oz+k*5,none⟩)) hSq ?_
            simp only[Act.put,sA,sZ,sS]
            refine gT 19 142 (.agg #[.int .i64 z.kind,.string (bs z.name),.string (bs z.text),.slice zaa z.attrs.length zac,.slice zka z.kids.length zkc]) hSq ?_ (hv:=fun w' hs=>by(have h0:=hs.cell lk0 k0';have h1:=hs.cell lk0 k1';have h2:=hs.cell lk0 k2';have h3:=hs.cell lk0 k3';have h4:=hs.cell lk0 k4';go_simp))
            simp only[Act.put,sA,sZ,sS]
            refine gT 20 143 (.agg #[.int .i64 h.v,.int .i64 z.kind,.string (bs z.name),.string (bs z.text),.slice zaa z.attrs.length zac,.slice zka z.kids.length zkc]) hSq ?_
            simp only[Act.put,sA,sZ,sS]
            refine rg_one 21 kB ?_
            refine tk_new 21 (some 144) (.cells #[.int .i64 h.v,.int .i64 z.kind,.string (bs z.name),.string (bs z.text),.slice zaa z.attrs.length zac,.slice zka z.kids.length zkc] 98) (fun n=> .slice (some ⟨n,0,none⟩) 1 1) rfl rfl (by rfl) kF ?_
            intro gb xb egb hxb hzxb hC
            have hSb:Sr vJ w13 xb:=hSq.ext hxb
            refine⟨hSb,?_⟩
            simp only[Act.put,sA,sZ,sS]
            have hEb:Ext w13 xb:=((Ext.refl w13).drew).trans hxb
            have hbse:w7.heap.size≤xb.heap.size:=Nat.le_trans hX7z.size hEb.size
            refine rg_one 22 kB ?_
            refine tk_src 22 (some 145) rfl rfl (by rfl) (.tmp 128) (.tmp 144) 96 rfl w7.heap.size 98 k0 (.agg #[.int .i64 0,.int .i64 0,.string ⟨#[]⟩,.string ⟨#[]⟩,.slice none 0 0,.slice none 0 0]) 6 96 Tryz.underlying96 ki kz0 kz1 kz2 rfl kD vJ lJ.length usJ rfl (rows_ext husJ hEb) (.slice (some ⟨gb,0,none⟩) 1 1) 1 [.int .i64 h.v,.int .i64 z.kind,.string (bs z.name),.string (bs z.text),.slice zaa z.attrs.length zac,.slice zka z.kids.length zkc] rfl (Src.block hC rfl) kP kC kA hbse ?_
            intro v3 xc hr3 hg3 ha3
            have hSc:Sr vJ w13 xc:=hSb.grown hg3
            refine⟨hSc,?_⟩
            simp only[Act.put,sA,sZ,sS]
            refine gT 23 146 (.pointer (some ⟨gd,j,none⟩)) hSc ?_
            simp only[Act.put,sA,sZ,sS]
            refine rg_t 24 none (.bool true) rfl hSc (fun w' hs=>by rfl) ?_
            simp only[Act.put,sA,sZ,sS]
            refine rg_done kB ?_
            obtain⟨v3a,v3c,rfl⟩:=own_form hr3
            have a4c:=hSc.cell lz0 z0
            have a4f:=hSc.free lz0 zf
            refine qlast_normal ?_
            refine tk_write 24 none (xc.setCell ⟨gd,j,none⟩ (.slice v3a (lJ.length+1) v3c)) (by rfl) rfl (by rfl) (exec_store rfl (store_slice _ s1Helds a4c a4f _ _ _)) ?_
            exact⟨gb,(.slice v3a (lJ.length+1) v3c),xb,xc,kH,rfl,hEb,hr3,hg3,ha3⟩
           rintro _ w9 ⟨gb,v3,xb,xc,rfl,hw9,hEb,hr3,hg3,ha3⟩
           simp only[Act.put,sA,sZ,sS]
           have HP9:Hid (F2 w9 (fun b=>p b∧b< w.heap.size) w7.heap.size 96 98 6 heldC (.slice (some ⟨gd,0,none⟩) vs2.length d4c) (vs2.set j v3) (L2.set j (lJ++ [⟨h.v,z⟩]))∧Rep w9 (fun b=>w7.heap.size≤b∧¬Mut (.slice (some ⟨gd,0,none⟩) vs2.length d4c) (vs2.set j v3) b) (.slice s4a S2.length s4c) (stepsD S2)∧Rep w9 (fun b=>w7.heap.size≤b∧¬Mut (.slice (some ⟨gd,0,none⟩) vs2.length d4c) (vs2.set j v3) b) (.slice (some ⟨gk,ok,none⟩) K.length kc) (stepsD K)∧Ext w7 w9):=by
            obtain⟨hSV,hF,hKV,_⟩:=HQ.out
            have hvm:vJ∈vs2:=List.mem_of_getElem? HVJ.out.1
            have hws:=H7.out.1.size
            have hXb:=hXz.trans hEb
            have hok:∀b,p b∧b< w.heap.size→p b∧b< w.heap.size:=fun b hb=>hb
            obtain⟨hF9,hM9⟩:=hF.push hEb hX7z.size (fun b hb=>by have:=hb.2;omega) j vJ lJ HVJ.out.1 HVJ.out.2 ⟨h.v,z⟩ HRJ.out (by
             unfold heldC
             rw[nodeC_eq]
             exact Reps.cons (Rep.int _ _ _ _) (Reps.cons (Rep.int _ _ _ _) (Reps.cons (Rep.string _ _ _ (by rw[bs_size];exact HZN.out.1)) (Reps.cons (Rep.string _ _ _ (by rw[bs_size];exact HZN.out.2)) (Reps.cons (HZA.out.1.lt.ext hXb) (Reps.cons (HZA.out.2.lt.ext hXb) (Reps.nil _ _))))))) hr3 hg3 ha3 rfl
            have hfr:=hF.frame (w1:=xb) (w2:=xc) (v2:=v3) (i:=j) hvm hg3 rfl
            have hs9:xb.heap.size≤w9.heap.size:=by rw[hw9];simpa using hg3.size
            rw[←hw9]at hF9 hfr
            have hrep:∀(v:Value) (d:DV),Rep w13 (fun b=>w7.heap.size≤b∧¬Mut (.slice (some ⟨gd,0,none⟩) vs2.length d4c) vs2 b) v d→Rep w9 (fun b=>w7.heap.size≤b∧¬Mut (.slice (some ⟨gd,0,none⟩) vs2.length d4c) (vs2.set j v3) b) v d:=fun v d hv=>
             ((hv.lt.ext hEb).kept fun b hb hlt=>hfr b hb.1.2 hlt).ok fun b hb=>⟨hb.1.1,fun hm=>by
              rcases hM9 b hm with hm | hm
              ·
               exact hb.1.2 hm
              ·
               have:=hb.2;have:=hEb.size;omega⟩
            refine Lh ⟨hF9,hrep _ _ hSV,hrep _ _ hKV,?_⟩
            rw[hw9]
            have hx8:Ext w7 xc:=Below.grown (hX7z.trans hEb) hg3 (Below.size (hX7z.trans hEb)) fun k hk=>(own_lt husJ hk.symm).1
            exact hx8.set hgd2 _
           have HL9:Hid (S2.length=(L2.set j (lJ++ [⟨h.v,z⟩])).length∧S2.length≤c+1∧∀m∈L2.set j (lJ++ [⟨h.v,z⟩]),m.length≤c+1):=Lh ⟨by rw[List.length_set];exact HQ.out.2.2.2.1,HQ.out.2.2.2.2.1,fun m hm=>by
            rcases List.mem_or_eq_of_mem_set hm with hm | e
            ·
             have:=HQ.out.2.2.2.2.2 m hm;omega
            ·
             rw[e];simp;exact hlJb⟩
           have HN9:Hid (gatherK h.v (K.drop (k+1)) (h.n.kids.drop (k+1)) (S2,L2.set j (lJ++ [⟨h.v,z⟩]))=RK):=Lh qB
           clear HQ HRJ HVJ hr3 hg3 ha3 hEb husJ z0 zf x0 x5 k0' k1' k2' k3' k4' lz0 lx0 lk0 HNX hw9 HSK HGK
           go_wp2_with fail
           go_roundw
           case rel=>exact⟨k+1,s4a,s4c,some ⟨gd,0,none⟩,d4c,(S2,L2.set j (lJ++ [⟨h.v,z⟩])),vs2.set j v3,c+1,by go_num,rfl,by rw[List.length_set],by omega,by omega,HP9.out.2.2.2,Lh ⟨⟨by rw[List.length_set];exact HP9.out.2.1,by rw[List.length_set];exact HP9.out.1,HL9.out⟩,by rw[List.length_set];exact HP9.out.2.2.1,HN9.out⟩⟩
           case measure=>exact mZ
        ·
         have hjI:¬(j:Int)< (g.1.length:Int):=by omega
         have hjle:j≤g.1.length:=by omega
         have hjlen:Hid (j=g.1.length):=Lh kA
         have HPO:Hid (stepPos t g.1=j):=Lh (by
          have e:=HI.out
          rw[List.drop_of_length_le kA]at e
          rw[HPO0.out,←e];rfl)
         have hq2:((j:Int)==(g.1.length:Int))=true:=by rw[beq_iff_eq];omega
         go_wp2_with fail
         refine rg_begin (S:=Sx wj) kB (Sx.begin _) ?_
         have hSx:Sx wj (World.drew wj):=(Sx.begin _)
         refine gT 0 64 (.int .i64 j) hSx ?_
         simp only[Act.put,sA,sZ,sS]
         refine gT 1 65 (.slice sa g.1.length sc) hSx ?_
         simp only[Act.put,sA,sZ,sS]
         refine gT 2 66 (.int .i64 g.1.length) hSx ?_
         simp only[Act.put,sA,sZ,sS]
         refine gT 3 67 (.bool false) hSx ?_
         simp only[Act.put,sA,sZ,sS]
         refine gT 4 68 (.bool false) hSx ?_
         simp only[Act.put,sA,sZ,sS]
         refine rg_s 5 (some 69) rfl hSx ?_
         simp only[Act.put,sA,sZ,sS]
         refine rg_s 6 (some 70) rfl hSx ?_
         simp only[Act.put,sA,sZ,sS]
         refine rg_s 7 (some 71) rfl hSx ?_
         simp only[Act.put,sA,sZ,sS]
         refine rg_s 8 (some 72) rfl hSx ?_
         simp only[Act.put,sA,sZ,sS]
         refine rg_s 9 (some 73) rfl hSx ?_
         simp only[Act.put,sA,sZ,sS]
         refine rg_s 10 (some 74) rfl hSx ?_
         simp only[Act.put,sA,sZ,sS]
         refine rg_s 11 (some 75) rfl hSx ?_
         simp only[Act.put,sA,sZ,sS]
         refine rg_s 12 (some 76) rfl hSx ?_
         simp only[Act.put,sA,sZ,sS]
         refine rg_s 13 (some 77) rfl hSx ?_
         simp only[Act.put,sA,sZ,sS]
         refine gT 14 78 (.bool false) hSx ?_
         simp only[Act.put,sA,sZ,sS]
         refine rg_done kB ?_
         obtain⟨wp,hwp⟩:∃wp,World.drew wj=wp:=⟨_,rfl⟩
         have hEp:Ext wj wp:=by rw[←hwp];exact(Ext.refl wj).drew
         rw[hwp]
         have hXp:=(hXq.trans hQ).trans hEp
         have hX7p:=(hX7q.trans hQ).trans hEp
         have HGp:Hid (GS p w w7 wp (.slice sa g.1.length sc) (.slice da vs.length dc) vs g c∧Rep wp (fun b=>w7.heap.size≤b∧¬Mut (.slice da vs.length dc) vs b) (.slice (some ⟨gk,ok,none⟩) K.length kc) (stepsD K)):=Lh ⟨HGj.out.1.ext hEp,HGj.out.2.ext hEp⟩
         have t0':=hEp.keep lgk t0;have t1':=hEp.keep lgk t1
         have lgk':gk< wp.heap.size:=Nat.lt_of_lt_of_le lgk hEp.size
         have htk':=htk.ext hEp
         clear HI t0 t1 lgk htk HGj hwp hEp
         have t0:=t0';have t1:=t1';have lgk:=lgk';have htk:=htk'
         clear t0' t1' lgk' htk'
         go_wp2_with fail
         refine rg_begin (S:=Sx wp) kB (Sx.begin _) ?_
         have hSy:Sx wp (World.drew wp):=(Sx.begin _)
         refine gT 0 81 (.int .i64 j) hSy ?_
         simp only[Act.put,sA,sZ,sS]
         refine gT 1 82 (.slice sa g.1.length sc) hSy ?_
         simp only[Act.put,sA,sZ,sS]
         refine gT 2 83 (.int .i64 g.1.length) hSy ?_
         simp only[Act.put,sA,sZ,sS]
         refine gT 3 84 (.bool true) hSy ?_
         simp only[Act.put,sA,sZ,sS]
         refine gT 4 85 (.bool true) hSy ?_
         simp only[Act.put,sA,sZ,sS]
         refine rg_s 5 (some 86) rfl hSy ?_
         simp only[Act.put,sA,sZ,sS]
         refine rg_s 6 (some 87) rfl hSy ?_
         simp only[Act.put,sA,sZ,sS]
         refine rg_s 7 (some 88) rfl hSy ?_
         simp only[Act.put,sA,sZ,sS]
         refine rg_s 8 (some 89) rfl hSy ?_
         simp only[Act.put,sA,sZ,sS]
         refine rg_s 9 (some 90) rfl hSy ?_
         simp only[Act.put,sA,sZ,sS]
         refine rg_s 10 (some 91) rfl hSy ?_
         simp only[Act.put,sA,sZ,sS]
         refine rg_s 11 (some 92) rfl hSy ?_
         simp only[Act.put,sA,sZ,sS]
         refine rg_s 12 (some 93) rfl hSy ?_
         simp only[Act.put,sA,sZ,sS]
         refine rg_s 13 (some 94) rfl hSy ?_
         simp only[Act.put,sA,sZ,sS]
         refine rg_s 14 (some 95) rfl hSy ?_
         simp only[Act.put,sA,sZ,sS]
         refine gT 15 96 (.bool true) hSy ?_
         simp only[Act.put,sA,sZ,sS]
         refine rg_done kB ?_
         obtain⟨wi,hwi⟩:∃wi,World.drew wp=wi:=⟨_,rfl⟩
         have hEi:Ext wp wi:=by rw[←hwi];exact(Ext.refl wp).drew
         rw[hwi]
         have hXi:=hXp.trans hEi
         have hX7i:=hX7p.trans hEi
         have HGi:Hid (GS p w w7 wi (.slice sa g.1.length sc) (.slice da vs.length dc) vs g c∧Rep wi (fun b=>w7.heap.size≤b∧¬Mut (.slice da vs.length dc) vs b) (.slice (some ⟨gk,ok,none⟩) K.length kc) (stepsD K)):=Lh ⟨HGp.out.1.ext hEi,HGp.out.2.ext hEi⟩
         have t0':=hEi.keep lgk t0;have t1':=hEi.keep lgk t1
         have lgk':gk< wi.heap.size:=Nat.lt_of_lt_of_le lgk hEi.size
         have htk':=htk.ext hEi
         have hE12a:=Ext.refl wi
         have hNIN:Hid (addS t ⟨h.v,z⟩ g=(insAt g.1 j t,insAt g.2 j [⟨h.v,z⟩])):=Lh (by unfold addS;rw[HPO.out,if_pos (.inl hjlen.out)])
         clear t0 t1 lgk htk hwi HGp hEi
         have t0:=t0';have t1:=t1';have lgk:=lgk';have htk:=htk'
         clear t0' t1' lgk' htk'
         go_wp2_with fail
         obtain⟨us,hus,hul,hTk,hDr,_⟩:=rep_src HGi.out.1.1 unStep szStep
         obtain⟨vt,hvt,evt⟩:=hTk j hjle
         obtain⟨vd,hvd,evd⟩:=hDr j hjle
         have h1u:=hus.one (flat_one one_step g.1)
         clear hTk hDr
         refine rg_begin (S:=Sx wi) kB (Sx.begin _) ?_
         have hSs:Sx wi (World.drew wi):=(Sx.begin _)
         refine gT 1 98 (.slice sa g.1.length sc) hSs ?_
         simp only[Act.put,sA,sZ,sS]
         refine gT 2 99 (.int .i64 j) hSs ?_
         simp only[Act.put,sA,sZ,sS]
         refine gT 3 100 (vt) hSs ?_ (hv:=fun w' hs=>by exact exec_slice rfl (evt w'))
         simp only[Act.put,sA,sZ,sS]
         refine gT 5 102 (.slice (some ⟨gk,ok,none⟩) K.length kc) hSs ?_
         simp only[Act.put,sA,sZ,sS]
         refine gT 6 103 (.int .i64 k) hSs ?_
         simp only[Act.put,sA,sZ,sS]
         refine gT 7 104 (.pointer (some ⟨gk,ok+k*2,none⟩)) hSs ?_
         simp only[Act.put,sA,sZ,sS]
         refine gT 8 105 (.agg #[.string (bs t.n),.slice ta t.key.length tc]) hSs ?_ (hv:=fun w' hs=>by(have h0:=hs.cell lgk t0;have h1:=hs.cell lgk t1;go_simp))
         simp only[Act.put,sA,sZ,sS]
         refine gT 11 108 (.slice sa g.1.length sc) hSs ?_
         simp only[Act.put,sA,sZ,sS]
         refine gT 12 109 (.int .i64 j) hSs ?_
         simp only[Act.put,sA,sZ,sS]
         refine gT 13 110 (vd) hSs ?_ (hv:=fun w' hs=>by exact exec_slice rfl (evd w'))
         simp only[Act.put,sA,sZ,sS]
         refine rg_row 0 9 4 10 97 106 101 107 100 105 134 101 j0 (.agg #[.string ⟨#[]⟩,.slice none 0 0]) 2 40 rfl rfl rfl rfl Tryz.underlying134 ji jz0 jz1 jz2 rfl kD (.agg #[.string (bs t.n),.slice ta t.key.length tc]) (vt) [.string (bs t.n),.slice ta t.key.length tc] ((us.take (j*2))) (j) rfl rfl (hvt.ext hSs) (fun u hu=>h1u u (List.mem_of_mem_take hu)) kG rfl kA kD (fun w' h=>hSs.ext h) (fun ev W=>by first | rfl | go_simp) (fun ev W hK hX=>by first | rfl | go_simp) ?_
         intro gas gbs v2s v3s wxs hEs hrs hSs
         simp only[Act.put,sA,sZ,sS]
         have hrs:=(show World.ownsRow wxs wi.heap.size _ _ _ _ _ from hrs)
         refine rg_one 14 kB ?_
         refine tk_src 14 (some 111) rfl rfl (by rfl) (.tmp 107) (.tmp 110) 134 rfl wi.heap.size 101 j0 (.agg #[.string ⟨#[]⟩,.slice none 0 0]) 2 40 Tryz.underlying134 ji jz0 jz1 jz2 rfl kD v3s (j+1) ((us.take (j*2))++([.string (bs t.n),.slice ta t.key.length tc]:List Value)) rfl hrs vd (g.1.length - j) (us.drop (j*2)) rfl (hvd.ext (show Ext wi wxs from hSs)) (fun u hu=>h1u u (List.mem_of_mem_drop hu)) kC kA (show Ext wi wxs from hSs).size ?_
         intro v4s w12 hr12 hg4s ha4s
         have hS12:Sx wi w12:=sx_grown hSs hrs hg4s
         refine⟨hS12,?_⟩
         simp only[Act.put,sA,sZ,sS]
         clear hrs hSs hEs hg4s ha4s
         refine gT 15 14 (v4s) hS12 ?_
         simp only[Act.put,sA,sZ,sS]
         refine rg_done kB ?_
         have hE12:Ext wi w12:=hS12
         have hKw:=HGi.out.2
         have hF12:=HGi.out.1.2.1.ext hE12
         have hlenv:vs.length=g.1.length:=by rw[HGi.out.1.2.1.len,HGi.out.1.2.2.1]
         have hjv:j≤vs.length:=by omega
         have hS12r:Rep w12 (fun b=>(w7.heap.size≤b∧¬Mut (.slice da vs.length dc) vs b)∧b< w12.heap.size) v4s (stepsD (insAt g.1 j t)):=((Rep.ins z_step hus (Reps.cons (Rep.string _ _ _ (by rw[bs_size];exact htn)) (Reps.cons (htk.ext hE12a) (Reps.nil _ _)):Reps wi (fun b=>w7.heap.size≤b∧¬Mut (.slice da vs.length dc) vs b) [.string (bs t.n),.slice ta t.key.length tc] (stepC t)) hE12 hr12).lt.ok fun b hb=>⟨hb.1.elim (fun h=>h) (fun h=>⟨Nat.le_trans hX7i.size h,fun hm=>by have:=(HGi.out.1.2.1.mut_lt hm).2;omega⟩),hb.2⟩)
         obtain⟨S2,hS2⟩:∃S,insAt g.1 j t=S:=⟨_,rfl⟩
         have hS2l:S2.length=g.1.length+1:=by rw[←hS2,insAt_len]
         rw[hS2]at hS12r
         obtain⟨s4a,s4c,rfl,_,_⟩:=hS12r.count z_step kA
         obtain⟨vt2,hvt2,evt2⟩:=src_take hF12.d unHelds szHelds j hjv
         obtain⟨vd2,hvd2,evd2⟩:=src_drop hF12.d unHelds szHelds j hjv
         have h1v:∀u∈vs,u.oneCell'=true:=fun u hu=>by
          obtain⟨_,n',us',_,hro⟩:=hF12.ownAt hu
          obtain⟨o,c',rfl⟩:=own_form hro
          rfl
         have hvsm:vs.length≤16777216:=by omega
         have HIN:=Lh (And.intro hF12 (And.intro hS12r (And.intro hKw hlenv)))
         have hw12s:wi.heap.size≤w12.heap.size:=hE12.size
         have HGL:=Lh (And.intro HGi.out.1.2.2.1 (And.intro HGi.out.1.2.2.2.1 HGi.out.1.2.2.2.2))
         have HE12:=Lh hE12
         clear hus hul hvt evt hvd evd h1u hr12 hS12r hF12 hKw hlenv htk hE12a t0 t1 lgk HGi hS12
         go_wp2_with fail
         refine rg_begin (S:=Sx w12) kB (Sx.begin _) ?_
         have hSm:Sx w12 (World.drew w12):=(Sx.begin _)
         refine gT 1 113 (.slice da vs.length dc) hSm ?_
         simp only[Act.put,sA,sZ,sS]
         refine gT 2 114 (.int .i64 j) hSm ?_
         simp only[Act.put,sA,sZ,sS]
         refine gT 3 115 (vt2) hSm ?_ (hv:=fun w' hs=>by exact exec_slice rfl (evt2 w'))
         simp only[Act.put,sA,sZ,sS]
         refine gT 7 119 (.slice da vs.length dc) hSm ?_
         simp only[Act.put,sA,sZ,sS]
         refine gT 8 120 (.int .i64 j) hSm ?_
         simp only[Act.put,sA,sZ,sS]
         refine gT 9 121 (vd2) hSm ?_ (hv:=fun w' hs=>by exact exec_slice rfl (evd2 w'))
         simp only[Act.put,sA,sZ,sS]
         refine rg_row 0 5 4 6 112 117 116 118 115 115 135 96 m0 (.slice none 0 0) 1 24 rfl rfl rfl rfl Tryz.underlying135 mi mz0 mz1 mz2 rfl kD (vt2) (vt2) [.slice none 0 0] ((vs.take (j*1))) (j) rfl rfl (hvt2.ext hSm) (fun u hu=>h1v u (List.mem_of_mem_take hu)) kT rfl kA kD (fun w' h=>hSm.ext h) (fun ev W=>by first | rfl | go_simp) (fun ev W hK hX=>by first | rfl | go_simp) ?_
         intro gam gbm v2m v3m wxm hEm hrm hSm
         simp only[Act.put,sA,sZ,sS]
         have hrm:=(show World.ownsRow wxm w12.heap.size _ _ _ _ _ from hrm)
         refine rg_one 10 kB ?_
         refine tk_src 10 (some 122) rfl rfl (by rfl) (.tmp 118) (.tmp 121) 135 rfl w12.heap.size 96 m0 (.slice none 0 0) 1 24 Tryz.underlying135 mi mz0 mz1 mz2 rfl kD v3m (j+1) ((vs.take (j*1))++([.slice none 0 0]:List Value)) rfl hrm vd2 (vs.length - j) (vs.drop (j*1)) rfl (hvd2.ext (show Ext w12 wxm from hSm)) (fun u hu=>h1v u (List.mem_of_mem_drop hu)) kC kA (show Ext w12 wxm from hSm).size ?_
         intro v4m w13 hr13 hg4m ha4m
         have hS13:Sx w12 w13:=sx_grown hSm hrm hg4m
         refine⟨hS13,?_⟩
         simp only[Act.put,sA,sZ,sS]
         clear hrm hSm hEm hg4m ha4m
         refine gT 11 15 (v4m) hS13 ?_
         simp only[Act.put,sA,sZ,sS]
         refine rg_done kB ?_
         have hE13:Ext w12 w13:=hS13
         have hins:w13.ownsRow w12.heap.size 96 1 v4m (vs.length+1) (insAt vs j (.slice none 0 0)):=by
          have e1:j+1+(vs.length - j)=vs.length+1:=by omega
          have e2:vs.take (j*1)++([.slice none 0 0]:List Value)++vs.drop (j*1)=insAt vs j (.slice none 0 0):=by unfold insAt;rw[Nat.mul_one,List.append_assoc];rfl
          rw[←e1,←e2];exact hr13
         obtain⟨hF13,hM13⟩:=HIN.out.1.ins hE13 (Nat.le_trans hX7i.size hw12s) j hjv hins
         obtain⟨d4a,d4c,rfl⟩:=own_form hr13
         obtain⟨vs2,hvs2⟩:∃x,insAt vs j (.slice none 0 0)=x:=⟨_,rfl⟩
         have hvs2l:j+1+(vs.length - j)=vs2.length:=by rw[←hvs2,insAt_len];omega
         obtain⟨L2,hL2⟩:∃x,insAt g.2 j ([]:List Held)=x:=⟨_,rfl⟩
         rw[hvs2,hL2,hvs2l]at hF13
         rw[hvs2,hvs2l]at hM13
         rw[hvs2l]
         have hXz:Ext w w13:=(hXi.trans HE12.out).trans hE13
         have hX7z:Ext w7 w13:=(hX7i.trans HE12.out).trans hE13
         have hjg2:j≤g.2.length:=by have:=HGL.out.1;omega
         have HNX:Hid (∀lJ,L2[j]? =some lJ→addS t ⟨h.v,z⟩ g=(S2,L2.set j (lJ++ [⟨h.v,z⟩]))):=Lh fun lJ hlJ=>by
          rw[←hL2,insAt_at _ _ _ hjg2]at hlJ
          cases hlJ
          rw[hNIN.out,←hL2,insAt_set _ _ _ _ hjg2,hS2];rfl
         have hrep13:∀(v:Value) (d:DV),Rep w13 (fun b=>(w7.heap.size≤b∧¬Mut (.slice da vs.length dc) vs b)∧b< w12.heap.size) v d→Rep w13 (fun b=>w7.heap.size≤b∧¬Mut (.slice d4a vs2.length d4c) vs2 b) v d:=fun v d hv=>hv.ok fun b hb=>⟨hb.1.1,fun hm=>by
          rcases hM13 b hm with hm | hm
          ·
           exact hb.1.2 hm
          ·
           omega⟩
         have HQ:Hid (Rep w13 (fun b=>w7.heap.size≤b∧¬Mut (.slice d4a vs2.length d4c) vs2 b) (.slice s4a S2.length s4c) (stepsD S2)∧F2 w13 (fun b=>p b∧b< w.heap.size) w7.heap.size 96 98 6 heldC (.slice d4a vs2.length d4c) vs2 L2∧Rep w13 (fun b=>w7.heap.size≤b∧¬Mut (.slice d4a vs2.length d4c) vs2 b) (.slice (some ⟨gk,ok,none⟩) K.length kc) (stepsD K)∧S2.length=L2.length∧S2.length≤c+1∧∀m∈L2,m.length≤c):=Lh ⟨hrep13 _ _ (HIN.out.2.1.ext hE13),hF13,hrep13 _ _ ((HIN.out.2.2.1.lt.ext (HE12.out.trans hE13)).ok fun b hb=>⟨hb.1,by omega⟩),by rw[hS2l,←hL2,insAt_len,HGL.out.1],by rw[hS2l];have:=HGL.out.2.1;omega,fun m hm=>by
          rw[←hL2]at hm
          rcases (mem_insAt _ _ _ _).1 hm with e | hm
          ·
           rw[e];exact Nat.zero_le _
          ·
           exact HGL.out.2.2 m hm⟩
         have hJ:j< vs2.length:=by omega
         clear hF13 hM13 hins hr13 hE13 hS13 HIN HGL hS2 hS2l hvs2 hvs2l hL2 hrep13 hvt2 evt2 hvd2 evd2 h1v hNIN HE12
         go_wp2_with fail
         have hJL:j< L2.length:=by rw[←HQ.out.2.1.len];exact hJ
         obtain⟨gd,dcn,edv,hgd,hgd2⟩:=own_some HQ.out.2.1.d kA
         cases edv
         have z0':=HQ.out.2.1.d.cellAt j kA
         obtain⟨vJ,hvJ⟩:∃v,vs2[j]? =some v:=⟨_,List.getElem?_eq_getElem hJ⟩
         obtain⟨lJ,hlJ⟩:∃v,L2[j]? =some v:=⟨_,List.getElem?_eq_getElem hJL⟩
         have hlJb:lJ.length≤c:=HQ.out.2.2.2.2.2 lJ (List.mem_of_getElem? hlJ)
         have z0:w13.cell? ⟨gd,j,none⟩=some vJ:=z0'.trans hvJ
         have zf:=HQ.out.2.1.d.frozenAt j
         obtain⟨usJ,husJ,hrepJ⟩:=(HQ.out.2.1.own j vJ lJ hvJ hlJ).rows
         have hJn:vJ.ownBlock=none∨vJ.ownBlock≠some gd:=HQ.out.2.1.out vJ (List.mem_of_getElem? hvJ)
         have lz0:gd< w13.heap.size∧some gd≠vJ.ownBlock:=⟨hgd,fun e=>by rcases hJn with h1 | h1;rw[h1]at e;cases e;exact h1 e.symm⟩
         have hJge:∀b,some b=vJ.ownBlock→w7.heap.size≤b:=fun b e=>(own_lt husJ e).1
         have x0:=hXz.keep lgh d0;have x5:=hXz.keep lgh d5
         have hw7s:=H7.out.1.size
         have lx0:gh< w13.heap.size∧some gh≠vJ.ownBlock:=⟨Nat.lt_of_lt_of_le lgh hXz.size,fun e=>by have:=hJge _ e;omega⟩
         have k0':=hXz.keep lgz z0c;have k1':=hXz.keep lgz z1c;have k2':=hXz.keep lgz z2c;have k3':=hXz.keep lgz z3c;have k4':=hXz.keep lgz z4c
         have lk0:gz< w13.heap.size∧some gz≠vJ.ownBlock:=⟨Nat.lt_of_lt_of_le lgz hXz.size,fun e=>by have:=hJge _ e;omega⟩
         have HRJ:=Lh hrepJ
         have HVJ:=Lh (And.intro hvJ hlJ)
         have hcJ:lJ.length≤16777216:=by omega
         clear z0' hrepJ hvJ hlJ hJn hJge
         refine region_merge (fun ac ac' w'=>∃(gb:Nat) (v3:Value) (xb:World) (xc:World),ac'=((((((((((((((((((((((((ac.put (some 123) (.slice (some ⟨gd,0,none⟩) vs2.length d4c)).put (some 124) (.int .i64 j)).put (some 125) (.slice (some ⟨gd,0,none⟩) vs2.length d4c)).put (some 126) (.int .i64 j)).put (some 127) (.pointer (some ⟨gd,j,none⟩))).put (some 128) (vJ)).put (some 129) (.slice (some ⟨gh,oh,none⟩) hs.length hc)).put (some 130) (.int .i64 i)).put (some 131) (.pointer (some ⟨gh,oh+i*6,none⟩))).put (some 132) (.pointer (some ⟨gh,oh+i*6,none⟩))).put (some 133) (.int .i64 h.v)).put (some 134) (.slice (some ⟨gh,oh,none⟩) hs.length hc)).put (some 135) (.int .i64 i)).put (some 136) (.pointer (some ⟨gh,oh+i*6,none⟩))).put (some 137) (.pointer (some ⟨gh,oh+i*6+1,none⟩))).put (some 138) (.pointer (some ⟨gh,oh+i*6+5,none⟩))).put (some 139) (.slice (some ⟨gz,oz,none⟩) h.n.kids.length ykc)).put (some 140) (.int .i64 k)).put (some 141) (.pointer (some ⟨gz,oz+k*5,none⟩))).put (some 142) (.agg #[.int .i64 z.kind,.string (bs z.name),.string (bs z.text),.slice zaa z.attrs.length zac,.slice zka z.kids.length zkc])).put (some 143) (.agg #[.int .i64 h.v,.int .i64 z.kind,.string (bs z.name),.string (bs z.text),.slice zaa z.attrs.length zac,.slice zka z.kids.length zkc])).put (some 144) (.slice (some ⟨gb,0,none⟩) 1 1)).put (some 145) (v3)).put (some 146) (.pointer (some ⟨gd,j,none⟩)))∧w'=xc.setCell ⟨gd,j,none⟩ v3∧Ext w13 xb∧World.ownsRow xc w7.heap.size 98 6 v3 (lJ.length+1) (usJ++ [.int .i64 h.v,.int .i64 z.kind,.string (bs z.name),.string (bs z.text),.slice zaa z.attrs.length zac,.slice zka z.kids.length zkc])∧World.grownBy xb xc vJ.ownBlock∧(v3.ownBlock=vJ.ownBlock∨v3.ownBlock=some xb.heap.size)) ?_ ?_
         ·
          refine rg_aside (S := Sr vJ w13) 24 ⟨none, .store 96 (.tmp 146) (.tmp 145), 0, "ref.go:81", #[⟨23, .data⟩, ⟨22, .data⟩, ⟨22, .chain⟩, ⟨0, .phase⟩, ⟨1, .phase⟩, ⟨2, .phase⟩, ⟨3, .phase⟩, ⟨4, .phase⟩, ⟨5, .phase⟩, ⟨6, .phase⟩, ⟨7, .phase⟩, ⟨8, .phase⟩, ⟨9, .phase⟩, ⟨10, .phase⟩, ⟨11, .phase⟩, ⟨12, .phase⟩, ⟨13, .phase⟩, ⟨14, .phase⟩, ⟨15, .phase⟩, ⟨16, .phase⟩, ⟨17, .phase⟩, ⟨18, .phase⟩, ⟨19, .phase⟩, ⟨20, .phase⟩, ⟨21, .phase⟩, ⟨22, .phase⟩], none⟩ kB kD rfl rfl kB kB (Sr.begin _ _) ?_
          have hSq:Sr vJ w13 (World.drew w13):=(Sr.begin _ _)
          simp only[List.setIfInBounds_toArray,List.set_cons_zero,List.set_cons_succ]
          refine gT 0 123 (.slice (some ⟨gd,0,none⟩) vs2.length d4c) hSq ?_
          simp only[Act.put,sA,sZ,sS]
          refine gT 1 124 (.int .i64 j) hSq ?_
          simp only[Act.put,sA,sZ,sS]
          refine gT 2 125 (.slice (some ⟨gd,0,none⟩) vs2.length d4c) hSq ?_
          simp only[Act.put,sA,sZ,sS]
          refine gT 3 126 (.int .i64 j) hSq ?_
          simp only[Act.put,sA,sZ,sS]
          refine gT 4 127 (.pointer (some ⟨gd,j,none⟩)) hSq ?_
          simp only[Act.put,sA,sZ,sS]
          refine gT 5 128 (vJ) hSq ?_ (hv:=fun w' hs=>by(have h0:=hs.cell lz0 z0;go_simp))
          simp only[Act.put,sA,sZ,sS]
          refine gT 6 129 (.slice (some ⟨gh,oh,none⟩) hs.length hc) hSq ?_
          simp only[Act.put,sA,sZ,sS]
          refine gT 7 130 (.int .i64 i) hSq ?_
          simp only[Act.put,sA,sZ,sS]
          refine gT 8 131 (.pointer (some ⟨gh,oh+i*6,none⟩)) hSq ?_
          simp only[Act.put,sA,sZ,sS]
          refine gT 9 132 (.pointer (some ⟨gh,oh+i*6,none⟩)) hSq ?_
          simp only[Act.put,sA,sZ,sS]
          refine gT 10 133 (.int .i64 h.v) hSq ?_ (hv:=fun w' hs=>by(have h0:=hs.cell lx0 x0;go_simp))
          simp only[Act.put,sA,sZ,sS]
          refine gT 11 134 (.slice (some ⟨gh,oh,none⟩) hs.length hc) hSq ?_
          simp only[Act.put,sA,sZ,sS]
          refine gT 12 135 (.int .i64 i) hSq ?_
          simp only[Act.put,sA,sZ,sS]
          refine gT 13 136 (.pointer (some ⟨gh,oh+i*6,none⟩)) hSq ?_
          simp only[Act.put,sA,sZ,sS]
          refine gT 14 137 (.pointer (some ⟨gh,oh+i*6+1,none⟩)) hSq ?_
          simp only[Act.put,sA,sZ,sS]
          refine gT 15 138 (.pointer (some ⟨gh,oh+i*6+5,none⟩)) hSq ?_
          simp only[Act.put,sA,sZ,sS]
          refine gT 16 139 (.slice (some ⟨gz,oz,none⟩) h.n.kids.length ykc) hSq ?_ (hv:=fun w' hs=>by(have h0:=hs.cell lx0 x5;go_simp))
          simp only[Act.put,sA,sZ,sS]
          refine gT 17 140 (.int .i64 k) hSq ?_
          simp only[Act.put,sA,sZ,sS]
          refine gT 18 141 (.pointer (some ⟨gz,oz+k*5,none⟩)) hSq ?_
          simp only[Act.put,sA,sZ,sS]
          refine gT 19 142 (.agg #[.int .i64 z.kind,.string (bs z.name),.string (bs z.text),.slice zaa z.attrs.length zac,.slice zka z.kids.length zkc]) hSq ?_ (hv:=fun w' hs=>by(have h0:=hs.cell lk0 k0';have h1:=hs.cell lk0 k1';have h2:=hs.cell lk0 k2';have h3:=hs.cell lk0 k3';have h4:=hs.cell lk0 k4';go_simp))
          simp only[Act.put,sA,sZ,sS]
          refine gT 20 143 (.agg #[.int .i64 h.v,.int .i64 z.kind,.string (bs z.name),.string (bs z.text),.slice zaa z.attrs.length zac,.slice zka z.kids.length zkc]) hSq ?_
          simp only[Act.put,sA,sZ,sS]
          refine rg_one 21 kB ?_
          refine tk_new 21 (some 144) (.cells #[.int .i64 h.v,.int .i64 z.kind,.string (bs z.name),.string (bs z.text),.slice zaa z.attrs.length zac,.slice zka z.kids.length zkc] 98) (fun n=> .slice (some ⟨n,0,none⟩) 1 1) rfl rfl (by rfl) kF ?_
          intro gb xb egb hxb hzxb hC
          have hSb:Sr vJ w13 xb:=hSq.ext hxb
          refine⟨hSb,?_⟩
          simp only[Act.put,sA,sZ,sS]
          have hEb:Ext w13 xb:=((Ext.refl w13).drew).trans hxb
          have hbse:w7.heap.size≤xb.heap.size:=Nat.le_trans hX7z.size hEb.size
          refine rg_one 22 kB ?_
          refine tk_src 22 (some 145) rfl rfl (by rfl) (.tmp 128) (.tmp 144) 96 rfl w7.heap.size 98 k0 (.agg #[.int .i64 0,.int .i64 0,.string ⟨#[]⟩,.string ⟨#[]⟩,.slice none 0 0,.slice none 0 0]) 6 96 Tryz.underlying96 ki kz0 kz1 kz2 rfl kD vJ lJ.length usJ rfl (rows_ext husJ hEb) (.slice (some ⟨gb,0,none⟩) 1 1) 1 [.int .i64 h.v,.int .i64 z.kind,.string (bs z.name),.string (bs z.text),.slice zaa z.attrs.length zac,.slice zka z.kids.length zkc] rfl (Src.block hC rfl) kP kC kA hbse ?_
          intro v3 xc hr3 hg3 ha3
          have hSc:Sr vJ w13 xc:=hSb.grown hg3
          refine⟨hSc,?_⟩
          simp only[Act.put,sA,sZ,sS]
          refine gT 23 146 (.pointer (some ⟨gd,j,none⟩)) hSc ?_
          simp only[Act.put,sA,sZ,sS]
          refine rg_t 24 none (.bool true) rfl hSc (fun w' hs=>by rfl) ?_
          simp only[Act.put,sA,sZ,sS]
          refine rg_done kB ?_
          obtain⟨v3a,v3c,rfl⟩:=own_form hr3
          have a4c:=hSc.cell lz0 z0
          have a4f:=hSc.free lz0 zf
          refine qlast_normal ?_
          refine tk_write 24 none (xc.setCell ⟨gd,j,none⟩ (.slice v3a (lJ.length+1) v3c)) (by rfl) rfl (by rfl) (exec_store rfl (store_slice _ s1Helds a4c a4f _ _ _)) ?_
          exact⟨gb,(.slice v3a (lJ.length+1) v3c),xb,xc,kH,rfl,hEb,hr3,hg3,ha3⟩
         rintro _ w9 ⟨gb,v3,xb,xc,rfl,hw9,hEb,hr3,hg3,ha3⟩
         simp only[Act.put,sA,sZ,sS]
         have HP9:Hid (F2 w9 (fun b=>p b∧b< w.heap.size) w7.heap.size 96 98 6 heldC (.slice (some ⟨gd,0,none⟩) vs2.length d4c) (vs2.set j v3) (L2.set j (lJ++ [⟨h.v,z⟩]))∧Rep w9 (fun b=>w7.heap.size≤b∧¬Mut (.slice (some ⟨gd,0,none⟩) vs2.length d4c) (vs2.set j v3) b) (.slice s4a S2.length s4c) (stepsD S2)∧Rep w9 (fun b=>w7.heap.size≤b∧¬Mut (.slice (some ⟨gd,0,none⟩) vs2.length d4c) (vs2.set j v3) b) (.slice (some ⟨gk,ok,none⟩) K.length kc) (stepsD K)∧Ext w7 w9):=by
          obtain⟨hSV,hF,hKV,_⟩:=HQ.out
          have hvm:vJ∈vs2:=List.mem_of_getElem? HVJ.out.1
          have hws:=H7.out.1.size
          have hXb:=hXz.trans hEb
          have hok:∀b,p b∧b< w.heap.size→p b∧b< w.heap.size:=fun b hb=>hb
          obtain⟨hF9,hM9⟩:=hF.push hEb hX7z.size (fun b hb=>by have:=hb.2;omega) j vJ lJ HVJ.out.1 HVJ.out.2 ⟨h.v,z⟩ HRJ.out (by
           unfold heldC
           rw[nodeC_eq]
           exact Reps.cons (Rep.int _ _ _ _) (Reps.cons (Rep.int _ _ _ _) (Reps.cons (Rep.string _ _ _ (by rw[bs_size];exact HZN.out.1)) (Reps.cons (Rep.string _ _ _ (by rw[bs_size];exact HZN.out.2)) (Reps.cons (HZA.out.1.lt.ext hXb) (Reps.cons (HZA.out.2.lt.ext hXb) (Reps.nil _ _))))))) hr3 hg3 ha3 rfl
          have hfr:=hF.frame (w1:=xb) (w2:=xc) (v2:=v3) (i:=j) hvm hg3 rfl
          have hs9:xb.heap.size≤w9.heap.size:=by rw[hw9];simpa using hg3.size
          rw[←hw9]at hF9 hfr
          have hrep:∀(v:Value) (d:DV),Rep w13 (fun b=>w7.heap.size≤b∧¬Mut (.slice (some ⟨gd,0,none⟩) vs2.length d4c) vs2 b) v d→Rep w9 (fun b=>w7.heap.size≤b∧¬Mut (.slice (some ⟨gd,0,none⟩) vs2.length d4c) (vs2.set j v3) b) v d:=fun v d hv=>
           ((hv.lt.ext hEb).kept fun b hb hlt=>hfr b hb.1.2 hlt).ok fun b hb=>⟨hb.1.1,fun hm=>by
            rcases hM9 b hm with hm | hm
            ·
             exact hb.1.2 hm
            ·
             have:=hb.2;have:=hEb.size;omega⟩
          refine Lh ⟨hF9,hrep _ _ hSV,hrep _ _ hKV,?_⟩
          rw[hw9]
          have hx8:Ext w7 xc:=Below.grown (hX7z.trans hEb) hg3 (Below.size (hX7z.trans hEb)) fun k hk=>(own_lt husJ hk.symm).1
          exact hx8.set hgd2 _
         have HL9:Hid (S2.length=(L2.set j (lJ++ [⟨h.v,z⟩])).length∧S2.length≤c+1∧∀m∈L2.set j (lJ++ [⟨h.v,z⟩]),m.length≤c+1):=Lh ⟨by rw[List.length_set];exact HQ.out.2.2.2.1,HQ.out.2.2.2.2.1,fun m hm=>by
          rcases List.mem_or_eq_of_mem_set hm with hm | e
          ·
           have:=HQ.out.2.2.2.2.2 m hm;omega
          ·
           rw[e];simp;exact hlJb⟩
         have HN9:Hid (gatherK h.v (K.drop (k+1)) (h.n.kids.drop (k+1)) (S2,L2.set j (lJ++ [⟨h.v,z⟩]))=RK):=Lh qB
         clear HQ HRJ HVJ hr3 hg3 ha3 hEb husJ z0 zf x0 x5 k0' k1' k2' k3' k4' lz0 lx0 lk0 HNX hw9 HSK HGK
         go_wp2_with fail
         go_roundw
         case rel=>exact⟨k+1,s4a,s4c,some ⟨gd,0,none⟩,d4c,(S2,L2.set j (lJ++ [⟨h.v,z⟩])),vs2.set j v3,c+1,by go_num,rfl,by rw[List.length_set],by omega,by omega,HP9.out.2.2.2,Lh ⟨⟨by rw[List.length_set];exact HP9.out.2.1,by rw[List.length_set];exact HP9.out.1,HL9.out⟩,by rw[List.length_set];exact HP9.out.2.2.1,HN9.out⟩⟩
         case measure=>exact mZ
      ·
       have hkI:¬(k:Int)< (K.length:Int):=by omega
       have hgR:g=RK:=by have e:=HGK.out.2.2;rw[List.drop_of_length_le kA,gatherK_nil]at e;exact e
       have HGS2:Hid (GS p w w7 wq (.slice sa g.1.length sc) (.slice da vs.length dc) vs g c∧gather l path (hs.drop (i+1)) g=G):=Lh ⟨HGK.out.1,by rw[hgR];exact HNX1.out⟩
       clear HGK hgR HNX1
       go_wp2_with fail
       go_roundw
       case rel=>exact⟨i+1,sa,sc,da,dc,g,vs,c,by go_num,rfl,rfl,by omega,by omega,hX7q,HGS2⟩
       case measure=>exact mZ
    ·
     have hlI:¬(i:Int)< (hs.length:Int):=by omega
     have hgG:g=G:=by have e:=HGS.out.2;rw[List.drop_of_length_le kA,gather]at e;exact e
     subst hgG
     obtain⟨hbo,hbr,hxo,hOW,hxv,hpv⟩:A5 wo g11 (outA s) (.slice ska s.key.length skc) (.slice xva VL.length xvc) (.slice pva PQ.length pvc) (.slice none 0 0)∧A5 wo g10 zeroA (.slice none 0 0) (.slice none 0 0) (.slice none 0 0) (.slice none 0 0)∧Ext w wo∧Rep wo (fun b=>w.heap.size+3≤b) (.slice ova OW.length ovc) (spansD OW)∧Rep wo (fun b=>w.heap.size+3≤b) (.slice xva VL.length xvc) (spansD VL)∧Rep wo (fun b=>(p b∧b< w.heap.size)∨w.heap.size+3≤b) (.slice pva PQ.length pvc) (partsD PQ):=⟨H7.out.2.2.1.ext hX7,H7.out.2.1.ext hX7,hX,H7.out.2.2.2.1.ext hX7,H7.out.2.2.2.2.1.ext hX7,H7.out.2.2.2.2.2.ext hX7⟩
     have hw7s:w.heap.size+3≤w7.heap.size:=by have:=HG.out;have:=H7.out.2.2.1.lt;omega
     have hw7o:w7.heap.size≤wo.heap.size:=hX7.size
     have hgl:g.1.length≤16777216:=by have:=HGS.out.1.2.2.2.1;omega
     have HL:=Lh (And.intro HGS.out.1.2.2.1 HGS.out.1.2.1.len)
     have HGO:=Lh (And.intro HGS.out.1.1 HGS.out.1.2.1)
     obtain⟨KL,hKL⟩:∃K,((g.1.zip g.2).map fun g=>nodeP l N (path++ [g.1.n]) g.1 g.2 OW)=K:=⟨_,rfl⟩
     have HKL:=Lh hKL
     rw[hKL]at HRG
     have HO:=Lh (And.intro hbr (And.intro hxo (And.intro hOW (And.intro hxv hpv))))
     have HK0:Hid (Exc g11 wo wo∧A5 wo g11 (outA s) (.slice ska s.key.length skc) (.slice xva VL.length xvc) (.slice pva PQ.length pvc) (.slice none 0 0)∧Own wo (fun b=>(p b∧b< w.heap.size)∨w.heap.size+3≤b) wo.heap.size 32 5 (.slice none 0 0) 0 ((KL.take 0).flatMap anodeC)):=Lh ⟨Exc.refl _ _,hbo,Own.nil _ _ _ _ _⟩
     clear HGS hcb hX7 hKL hbo hbr hxo hOW hxv hpv
     go_wp2_with fail
     go_loopw [20] (fun t wr=>∃(k:Nat) (ca:Option Addr) (cc:Nat),t= .int .i64 k∧k≤g.1.length∧Ext w wr∧Hid (Exc g11 wo wr∧A5 wr g11 (outA s) (.slice ska s.key.length skc) (.slice xva VL.length xvc) (.slice pva PQ.length pvc) (.slice ca k cc)∧Own wr (fun b=>(p b∧b< w.heap.size)∨w.heap.size+3≤b) wo.heap.size 32 5 (.slice ca k cc) k ((KL.take k).flatMap anodeC))) (fun t _=>downV g.1.length t)
     case atStart=>exact⟨0,none,0,rfl,Nat.zero_le _,hX,HK0⟩
     case round=>
      clear HK0 hX
      obtain⟨k,ca,cc,rfl,hk,hXm,HK⟩:=hrel
      obtain⟨wm,hwm⟩:∃wm,wm=wr:=⟨_,rfl⟩
      subst hwm
      have hk0:=nZ0 k
      have hkm:k≤16777216:=by omega
      have hg:=HG.out
      by_cases hkl:k< g.1.length
      ·
       have hkI:(k:Int)< (g.1.length:Int):=by omega
       have hkv:k< vs.length:=by have:=HL.out;omega
       have hkg:k< g.2.length:=by have:=HL.out;omega
       have hkvI:(k:Int)< (vs.length:Int):=by omega
       obtain⟨gs,os,yk,esa,lgso,hgsp,y0o,y1o,hyr⟩:=step_at HGO.out.1 k hkl
       cases esa
       obtain⟨gd,dcn,edv,hgd,hgd2⟩:=own_some HGO.out.2.d kA
       cases edv
       have hyn:=step_len HGO.out.1 k hkl
       obtain⟨vk,hvk2⟩:∃v,vs[k]? =some v:=⟨_,List.getElem?_eq_getElem hkv⟩
       have v0o:=(HGO.out.2.d.cellAt k kA).trans hvk2
       have hlr:=(HGO.out.2.own k vk g.2[k] hvk2 (List.getElem?_eq_getElem hkg)).rep
       have hzm:(g.1[k],g.2[k])∈g.1.zip g.2:=by
        have:=List.getElem_mem (l:=g.1.zip g.2) (n:=k) (by rw[List.length_zip];omega)
        rw[List.getElem_zip]at this;exact this
       have hsel:g.2[k]=selH l path g.1[k] hs:=HGI.out.eq _ hzm
       have hmem:g.1[k]∈g.1:=List.getElem_mem hkl
       have hKLk:KL[k]? =some (nodeP l N (path++ [g.1[k].n]) g.1[k] g.2[k] OW):=by
        rw[←HKL.out,List.getElem?_map,List.getElem?_eq_getElem (by rw[List.length_zip];omega),List.getElem_zip];rfl
       have hne':g.2[k]≠ []:=by rw[hsel];exact(HGI.out.iff _).2 hmem
       obtain⟨y,hy⟩:∃y,g.1[k]=y:=⟨_,rfl⟩
       obtain⟨lk,hlk⟩:∃y,g.2[k]=y:=⟨_,rfl⟩
       rw[hy]at y0o hyr hyn hsel hmem hKLk
       rw[hlk]at hlr hsel hKLk hne'
       obtain⟨ya,yc,rfl,_,_⟩:=hyr.count z_str kA
       obtain⟨hXC,hA5,hOC⟩:=HK.out
       have hgo:gs≠g11:=by omega
       have hgdo:gd≠g11:=by omega
       have y0:=(World.cell?_of_block (a:=⟨gs,os+k*2,none⟩) (hXC.2 gs hgo lgso)).trans y0o
       have y1:=(World.cell?_of_block (a:=⟨gs,os+k*2+1,none⟩) (hXC.2 gs hgo lgso)).trans y1o
       have v0:=(World.cell?_of_block (a:=⟨gd,k,none⟩) (hXC.2 gd hgdo hgd)).trans v0o
       have lgs:gs< wm.heap.size:=Nat.lt_of_lt_of_le lgso hXC.1
       have lgd:gd< wm.heap.size:=Nat.lt_of_lt_of_le hgd hXC.1
       have hyrm:Rep wm (fun b=>w7.heap.size≤b∧b< wo.heap.size) (.slice ya y.key.length yc) (strsD y.key):=(hyr.lt.kept fun b hb hlt=>hXC.2 b (by have:=hb.1.1;omega) hlt).ok fun b hb=>⟨hb.1.1,hb.2⟩
       have hlrm:Rep wm (fun b=>(p b∧b< w.heap.size)∨(w7.heap.size≤b∧b< wo.heap.size)) vk (heldsD lk):=(hlr.lt.kept fun b hb hlt=>hXC.2 b (by rcases hb.1 with h1 | h1;(have:=h1.2;omega);omega) hlt).ok fun b hb=>hb.1.elim .inl fun h1=> .inr ⟨h1,hb.2⟩
       have hOWm:Rep wm (fun b=>w.heap.size+3≤b∧b< wo.heap.size) (.slice ova OW.length ovc) (spansD OW):=(HO.out.2.2.1.lt.kept fun b hb hlt=>hXC.2 b (by have:=hb.1;omega) hlt)
       obtain⟨us,hus,hul,_,_,hsrc0⟩:=rep_src (hvp.lt.ext hXm) unStr szStr
       obtain⟨gp,op,rfl,_⟩:=str_at hvp 0 hp0
       have hsrc:=hsrc0
       obtain⟨usC,hrowC,hrepC⟩:=hOC.rows
       have hsz1:=H7.out.1.size
       have hpp:=HHS.out
       have HKD:=Lh (And.intro hyrm (And.intro hlrm (And.intro hOWm (And.intro hsel (And.intro hKLk (And.intro hne' (And.intro hXC (And.intro hA5 hrepC))))))))
       have hwom:wo.heap.size≤wm.heap.size:=hXC.1
       clear hyr hlr hyrm hlrm hOWm hsel hKLk hne' y0o y1o v0o hvk2 hzm hmem hy hlk hOC HK hgsp hsrc0
       go_wp2_with fail
       refine rg_begin (S:=Sx wm) kB (Sx.begin _) ?_
       have hSp:Sx wm (World.drew wm):=(Sx.begin _)
       refine gT 1 154 (.slice (some ⟨gp,op,none⟩) path.length pc) hSp ?_
       simp only[Act.put,sA,sZ,sS]
       refine gT 3 156 (.slice (some ⟨gs,os,none⟩) g.1.length sc) hSp ?_
       simp only[Act.put,sA,sZ,sS]
       refine gT 4 157 (.int .i64 k) hSp ?_
       simp only[Act.put,sA,sZ,sS]
       refine gT 5 158 (.pointer (some ⟨gs,os+k*2,none⟩)) hSp ?_
       simp only[Act.put,sA,sZ,sS]
       refine gT 6 159 (.pointer (some ⟨gs,os+k*2,none⟩)) hSp ?_
       simp only[Act.put,sA,sZ,sS]
       refine gT 7 160 (.string (bs y.n)) hSp ?_ (hv:=fun w' hs=>by(have h0:=hs.cell lgs y0;go_simp))
       simp only[Act.put,sA,sZ,sS]
       refine rg_row 0 8 2 9 153 161 155 162 154 160 27 9 i0 (.string ⟨#[]⟩) 1 16 rfl rfl rfl rfl Tryz.underlying27 ii iz0 iz1 iz2 rfl kD (.string (bs y.n)) ((.slice (some ⟨gp,op,none⟩) path.length pc)) [.string (bs y.n)] (us) (path.length) rfl rfl (hsrc.ext hSp) (hus.one (flat_one one_str path)) kE rfl kA kD (fun w' h=>hSp.ext h) (fun ev W=>by first | rfl | go_simp) (fun ev W hK hX=>by first | rfl | go_simp) ?_
       intro gap gbp v2p v3p wz hEp hrp hSp
       simp only[Act.put,sA,sZ,sS]
       refine gT 10 21 (v3p) hSp ?_
       simp only[Act.put,sA,sZ,sS]
       have hr5:=(show World.ownsRow wz wm.heap.size _ _ _ _ _ from hrp)
       have hS5:Sx wm wz:=hSp
       clear hEp
       refine rg_done kB ?_
       have hEmz:Ext wm wz:=hS5
       have hXz:=hXm.trans hEmz
       have hwoz:wo.heap.size≤wz.heap.size:=Nat.le_trans hwom hEmz.size
       have hp2:Rep wz (fun b=>(p b∧b< w.heap.size)∨wm.heap.size≤b) v3p (strsD (path++ [y.n])):=by
        refine Own.rep (p:=fun b=>p b∧b< w.heap.size) (base:=wm.heap.size) (e:=9) (n:=path.length+1) ⟨_,hr5,?_⟩
        rw[List.flatMap_append]
        have hsz2:=hXm.size
        have hsz3:=hEmz.size
        refine Reps.append ((hus.ext hEmz).ok fun b hb=>⟨hb,fun e=>by have:=(own_lt hr5 e).1;have:=hb.2;omega,by have:=hb.2;omega⟩) (Reps.cons (Rep.string _ _ _ (by rw[bs_size];exact hyn)) (Reps.nil _ _))
       obtain⟨p2a,p2c,rfl⟩:=own_form hr5
       have y0z:=hEmz.keep lgs y0;have y1z:=hEmz.keep lgs y1;have v0z:=hEmz.keep lgd v0
       have hCge:∀b,some b=(Value.slice ca k cc).ownBlock→wo.heap.size≤b:=fun b e=>(own_lt hrowC e).1
       have lgsz:gs< wz.heap.size∧some gs≠(Value.slice ca k cc).ownBlock:=⟨Nat.lt_of_lt_of_le lgs hEmz.size,fun e=>by have:=hCge _ e;omega⟩
       have lgdz:gd< wz.heap.size∧some gd≠(Value.slice ca k cc).ownBlock:=⟨Nat.lt_of_lt_of_le lgd hEmz.size,fun e=>by have:=hCge _ e;omega⟩
       have hA5z:=HKD.out.2.2.2.2.2.2.2.1.ext hEmz
       have g4c:=hA5z.c4
       have g4f:=hA5z.f4
       have lg4:g11< wz.heap.size∧some g11≠(Value.slice ca k cc).ownBlock:=⟨hA5z.lt,fun e=>by have:=hCge _ e;omega⟩
       have HIH:Hid (∀W,Ext wz W→Calls Tryz.prog 40 #[.slice la l.length lc,.slice p2a (path.length+1) p2c,.agg #[.string (bs y.n),.slice ya y.key.length yc],vk,.slice ova OW.length ovc] W fun e w'=>RetA (fun b=>(fun b=>((p b∧b< w.heap.size)∨w.heap.size+3≤b)∧some b≠(Value.slice ca k cc).ownBlock) b∨W.heap.size≤b) (nodeP l N (path++ [y.n]) y lk OW) e w'∧Ext W w'):=Lh fun W hE=>by
        obtain⟨h1,h2,h3,h4,h5,h6,_⟩:=HKD.out
        have hEW:=hEmz.trans hE
        have hris:∀h∈hs,Rising (stepsS l path h.n.kids):=fun h hm=>(((wfN_eq l h.n path).1 (hpp h hm).1).2 HFB.out).2.1
        have hpc1:∀b,p b∧b< w.heap.size→(fun b=>((p b∧b< w.heap.size)∨w.heap.size+3≤b)∧some b≠(Value.slice ca k cc).ownBlock) b:=fun b hb=>⟨.inl hb,fun e=>by have:=hCge _ e;have:=hb.2;omega⟩
        refine IH.out (path++ [y.n]) y lk OW (fun b=>((p b∧b< w.heap.size)∨w.heap.size+3≤b)∧some b≠(Value.slice ca k cc).ownBlock) _ _ _ _ _ W h6 (fun g hg=> ?_) (by rw[h4];exact Nat.le_trans (hszL_selH l path y hs) HSZ.out) (by rw[h4];exact Nat.le_trans (selH_len l path y hs hris) hhl) kI hyn ((hvl.lt.ext (hXz.trans hE)).ok hpc1) ((hp2.ext hE).ok fun b hb=>hb.elim (hpc1 b) fun h=>⟨.inr kA,fun e=>by have:=(own_lt hrowC e).2;omega⟩) ((h1.ext hEW).ok fun b hb=>⟨.inr kA,fun e=>by have:=hCge _ e;omega⟩) ((h2.ext hEW).ok fun b hb=>hb.elim (hpc1 b) fun h=>⟨.inr kA,fun e=>by have:=hCge _ e;omega⟩) ((h3.ext hEW).ok fun b hb=>⟨.inr hb.1,fun e=>by have:=hCge _ e;omega⟩)
        rw[h4]at hg
        obtain⟨h,hm,hkk,hv⟩:=(selH_mem l path y hs hris g).1 hg
        obtain⟨hk1,hk2,_⟩:=(walkF_step l h.n path y [] 0 (hpp h hm).1).2 _ hkk
        have hw:=(((wfN_eq l h.n path).1 (hpp h hm).1).2 HFB.out).2.2
        have hwk:=wfL_mem l path _ _ hw hk1
        rw[hk2]at hwk
        have h7:=nsz_mem _ _ hk1
        have h8:=(hpp h hm).2
        obtain⟨q,hq,hqe⟩:=List.mem_iff_getElem.1 hk1
        have h9:=cntL_mem h.n.kids q hq
        have h10:=cnt_kids h.n
        rw[hqe]at h9
        refine⟨hwk,by omega,by omega,by rw[List.length_append];simp only[List.length_cons,List.length_nil];omega⟩
       obtain⟨KN,hKN⟩:∃K,nodeP l N (path++ [y.n]) y lk OW=K:=⟨_,rfl⟩
       rw[hKN]at HIH
       have HKN:Hid (KL[k]? =some KN∧KN.name=y.n):=Lh ⟨by rw[←hKN];exact HKD.out.2.2.2.2.1,by rw[←hKN];cases N<;> rfl⟩
       clear hKN y0 y1 v0 lgs lgd hul hus hsrc hr5 hp2
       go_wp2_with fail
       refine region_merge (fun ac ac' w'=>∃(ka1:Option Addr) (va1:Option Addr) (pa1:Option Addr) (ca1:Option Addr) (kc1:Nat) (vc1:Nat) (pc1:Nat) (cc1:Nat) (gb:Nat) (v3:Value) (wx:World) (xb:World) (xc:World),ac'=(((((((((((((((((ac.put (some 163) (.pointer (some ⟨g11,4,none⟩))).put (some 164) (.slice ca k cc)).put (some 165) (.slice la l.length lc)).put (some 166) (.slice p2a (path.length+1) p2c)).put (some 167) (.slice (some ⟨gs,os,none⟩) g.1.length sc)).put (some 168) (.int .i64 k)).put (some 169) (.pointer (some ⟨gs,os+k*2,none⟩))).put (some 170) (.agg #[.string (bs y.n),.slice ya y.key.length yc])).put (some 171) (.slice (some ⟨gd,0,none⟩) vs.length dc)).put (some 172) (.int .i64 k)).put (some 173) (.pointer (some ⟨gd,k,none⟩))).put (some 174) (vk)).put (some 175) (.slice ova OW.length ovc)).put (some 176) (.agg #[.string (bs KN.name),.slice ka1 KN.key.length kc1,.slice va1 KN.vers.length vc1,.slice pa1 KN.parts.length pc1,.slice ca1 KN.kids.length cc1])).put (some 177) (.slice (some ⟨gb,0,none⟩) 1 1)).put (some 178) (v3)).put (some 179) (.pointer (some ⟨g11,4,none⟩)))∧w'=xc.setCell ⟨g11,4,none⟩ v3∧Hid (Rep wx (fun b=>((p b∧b< w.heap.size)∨w.heap.size+3≤b)∧some b≠(Value.slice ca k cc).ownBlock) (.slice ka1 KN.key.length kc1) (strsD KN.key)∧Rep wx (fun b=>((p b∧b< w.heap.size)∨w.heap.size+3≤b)∧some b≠(Value.slice ca k cc).ownBlock) (.slice va1 KN.vers.length vc1) (spansD KN.vers)∧Rep wx (fun b=>((p b∧b< w.heap.size)∨w.heap.size+3≤b)∧some b≠(Value.slice ca k cc).ownBlock) (.slice pa1 KN.parts.length pc1) (partsD KN.parts)∧Rep wx (fun b=>((p b∧b< w.heap.size)∨w.heap.size+3≤b)∧some b≠(Value.slice ca k cc).ownBlock) (.slice ca1 KN.kids.length cc1) (anodesD KN.kids))∧Ext wz wx∧Ext wx xb∧World.ownsRow xc wo.heap.size 32 5 v3 (k+1) (usC++ [.string (bs KN.name),.slice ka1 KN.key.length kc1,.slice va1 KN.vers.length vc1,.slice pa1 KN.parts.length pc1,.slice ca1 KN.kids.length cc1])∧World.grownBy xb xc (Value.slice ca k cc).ownBlock∧(v3.ownBlock=(Value.slice ca k cc).ownBlock∨v3.ownBlock=some xb.heap.size)) ?_ ?_
       ·
        refine rg_aside (S := Sr (.slice ca k cc) wz) 17 ⟨none, .store 30 (.tmp 179) (.tmp 178), 0, "ref.go:86", #[⟨16, .data⟩, ⟨15, .data⟩, ⟨15, .chain⟩, ⟨0, .phase⟩, ⟨1, .phase⟩, ⟨2, .phase⟩, ⟨3, .phase⟩, ⟨4, .phase⟩, ⟨5, .phase⟩, ⟨6, .phase⟩, ⟨7, .phase⟩, ⟨8, .phase⟩, ⟨9, .phase⟩, ⟨10, .phase⟩, ⟨11, .phase⟩, ⟨12, .phase⟩, ⟨13, .phase⟩, ⟨14, .phase⟩, ⟨15, .phase⟩], none⟩ kB kD rfl rfl kB kB (Sr.begin _ _) ?_
        have hSr:Sr (.slice ca k cc) wz (World.drew wz):=(Sr.begin _ _)
        simp only[List.setIfInBounds_toArray,List.set_cons_zero,List.set_cons_succ]
        refine gT 0 163 (.pointer (some ⟨g11,4,none⟩)) hSr ?_
        simp only[Act.put,sA,sZ,sS]
        refine gT 1 164 (.slice ca k cc) hSr ?_ (hv:=fun w' hs=>by(have h0:=hs.cell lg4 g4c;go_simp))
        simp only[Act.put,sA,sZ,sS]
        refine gT 2 165 (.slice la l.length lc) hSr ?_
        simp only[Act.put,sA,sZ,sS]
        refine gT 3 166 (.slice p2a (path.length+1) p2c) hSr ?_
        simp only[Act.put,sA,sZ,sS]
        refine gT 4 167 (.slice (some ⟨gs,os,none⟩) g.1.length sc) hSr ?_
        simp only[Act.put,sA,sZ,sS]
        refine gT 5 168 (.int .i64 k) hSr ?_
        simp only[Act.put,sA,sZ,sS]
        refine gT 6 169 (.pointer (some ⟨gs,os+k*2,none⟩)) hSr ?_
        simp only[Act.put,sA,sZ,sS]
        refine gT 7 170 (.agg #[.string (bs y.n),.slice ya y.key.length yc]) hSr ?_ (hv:=fun w' hs=>by(have h0:=hs.cell lgsz y0z;have h1:=hs.cell lgsz y1z;go_simp))
        simp only[Act.put,sA,sZ,sS]
        refine gT 8 171 (.slice (some ⟨gd,0,none⟩) vs.length dc) hSr ?_
        simp only[Act.put,sA,sZ,sS]
        refine gT 9 172 (.int .i64 k) hSr ?_
        simp only[Act.put,sA,sZ,sS]
        refine gT 10 173 (.pointer (some ⟨gd,k,none⟩)) hSr ?_
        simp only[Act.put,sA,sZ,sS]
        refine gT 11 174 (vk) hSr ?_ (hv:=fun w' hs=>by(have h0:=hs.cell lgdz v0z;go_simp))
        simp only[Act.put,sA,sZ,sS]
        refine gT 12 175 (.slice ova OW.length ovc) hSr ?_
        simp only[Act.put,sA,sZ,sS]
        refine rg_one 13 kB ?_
        refine tk_call 13 (some 176) 40 #[.slice la l.length lc,.slice p2a (path.length+1) p2c,.agg #[.string (bs y.n),.slice ya y.key.length yc],vk,.slice ova OW.length ovc] rfl rfl (by rfl) (fun w'=>by first | rfl | go_simp) (R:=fun v w'=>∃(ka1 va1 pa1 ca1:Option Addr) (kc1 vc1 pc1 cc1:Nat),v= .agg #[.string (bs KN.name),.slice ka1 KN.key.length kc1,.slice va1 KN.vers.length vc1,.slice pa1 KN.parts.length pc1,.slice ca1 KN.kids.length cc1]∧Hid (Rep w' (fun b=>((p b∧b< w.heap.size)∨w.heap.size+3≤b)∧some b≠(Value.slice ca k cc).ownBlock) (.slice ka1 KN.key.length kc1) (strsD KN.key)∧Rep w' (fun b=>((p b∧b< w.heap.size)∨w.heap.size+3≤b)∧some b≠(Value.slice ca k cc).ownBlock) (.slice va1 KN.vers.length vc1) (spansD KN.vers)∧Rep w' (fun b=>((p b∧b< w.heap.size)∨w.heap.size+3≤b)∧some b≠(Value.slice ca k cc).ownBlock) (.slice pa1 KN.parts.length pc1) (partsD KN.parts)∧Rep w' (fun b=>((p b∧b< w.heap.size)∨w.heap.size+3≤b)∧some b≠(Value.slice ca k cc).ownBlock) (.slice ca1 KN.kids.length cc1) (anodesD KN.kids))∧Ext (World.drew wz) w') ?_ ?_
        ·
         refine(HIH.out _ ((Ext.refl wz).drew)).mono ?_
         rintro e w' ⟨⟨ka1,va1,pa1,ca1,kc1,vc1,pc1,cc1,rfl,h1,h2,h3,h4⟩,h⟩
         have hcv:∀b,((fun b=>((p b∧b< w.heap.size)∨w.heap.size+3≤b)∧some b≠(Value.slice ca k cc).ownBlock) b∨(World.drew wz).heap.size≤b)→(fun b=>((p b∧b< w.heap.size)∨w.heap.size+3≤b)∧some b≠(Value.slice ca k cc).ownBlock) b:=fun b hb=>hb.elim (fun h=>h) fun h=>⟨.inr (by have:=((Ext.refl wz).drew).size;omega),fun e=>by have:=(own_lt hrowC e).2;have:=hEmz.size;have:=((Ext.refl wz).drew).size;omega⟩
         exact⟨_,rfl,ka1,va1,pa1,ca1,kc1,vc1,pc1,cc1,rfl,Lh ⟨h1.ok hcv,h2.ok hcv,h3.ok hcv,h4.ok hcv⟩,h⟩
        rintro _ wx ⟨ka1,va1,pa1,ca1,kc1,vc1,pc1,cc1,rfl,HK4,hBx⟩
        have hSx1:Sr (.slice ca k cc) wz wx:=hSr.ext hBx
        refine⟨hSx1,?_⟩
        simp only[Act.put,sA,sZ,sS]
        have hEx:Ext wz wx:=((Ext.refl wz).drew).trans hBx
        refine rg_one 14 kB ?_
        refine tk_new 14 (some 177) (.cells #[.string (bs KN.name),.slice ka1 KN.key.length kc1,.slice va1 KN.vers.length vc1,.slice pa1 KN.parts.length pc1,.slice ca1 KN.kids.length cc1] 32) (fun n=> .slice (some ⟨n,0,none⟩) 1 1) rfl rfl (by rfl) kF ?_
        intro gb xb egb hxb hzxb hC
        have hSb:Sr (.slice ca k cc) wz xb:=hSx1.ext hxb
        refine⟨hSb,?_⟩
        simp only[Act.put,sA,sZ,sS]
        have hEb:Ext wz xb:=hEx.trans hxb
        have hbse:wo.heap.size≤xb.heap.size:=Nat.le_trans hwoz hEb.size
        refine rg_one 15 kB ?_
        refine tk_src 15 (some 178) rfl rfl (by rfl) (.tmp 164) (.tmp 177) 30 rfl wo.heap.size 32 n0 (.agg #[.string ⟨#[]⟩,.slice none 0 0,.slice none 0 0,.slice none 0 0,.slice none 0 0]) 5 112 Tryz.underlying30 ni nz0 nz1 nz2 rfl kD (.slice ca k cc) k usC rfl (rows_ext hrowC (hEmz.trans hEb)) (.slice (some ⟨gb,0,none⟩) 1 1) 1 [.string (bs KN.name),.slice ka1 KN.key.length kc1,.slice va1 KN.vers.length vc1,.slice pa1 KN.parts.length pc1,.slice ca1 KN.kids.length cc1] rfl (Src.block hC rfl) kL kC kA hbse ?_
        intro v3 xc hr3 hg3 ha3
        have hSc:Sr (.slice ca k cc) wz xc:=hSb.grown hg3
        refine⟨hSc,?_⟩
        simp only[Act.put,sA,sZ,sS]
        refine gT 16 179 (.pointer (some ⟨g11,4,none⟩)) hSc ?_
        simp only[Act.put,sA,sZ,sS]
        refine rg_t 17 none (.bool true) rfl hSc (fun w' hs=>by rfl) ?_
        simp only[Act.put,sA,sZ,sS]
        refine rg_done kB ?_
        obtain⟨v3a,v3c,rfl⟩:=own_form hr3
        have a4c:=hSc.cell lg4 g4c
        have a4f:=hSc.free lg4 g4f
        refine qlast_normal ?_
        refine tk_write 17 none (xc.setCell ⟨g11,4,none⟩ (.slice v3a (k+1) v3c)) (by rfl) rfl (by rfl) (exec_store rfl (store_slice _ s1Anodes a4c a4f _ _ _)) ?_
        exact⟨ka1,va1,pa1,ca1,kc1,vc1,pc1,cc1,gb,(.slice v3a (k+1) v3c),wx,xb,xc,kH,rfl,HK4,hEx,hxb,hr3,hg3,ha3⟩
       rintro _ w9 ⟨ka1,va1,pa1,ca1,kc1,vc1,pc1,cc1,gb,v3,wx,xb,xc,rfl,hw9,HK4,hEx,hxb,hr3,hg3,ha3⟩
       simp only[Act.put,sA,sZ,sS]
       have HF9:Hid (Ext w w9∧∃c9a c9c,v3= .slice c9a (k+1) c9c∧Exc g11 wo w9∧A5 w9 g11 (outA s) (.slice ska s.key.length skc) (.slice xva VL.length xvc) (.slice pva PQ.length pvc) (.slice c9a (k+1) c9c)∧Own w9 (fun b=>(p b∧b< w.heap.size)∨w.heap.size+3≤b) wo.heap.size 32 5 (.slice c9a (k+1) c9c) (k+1) ((KL.take (k+1)).flatMap anodeC)):=by
        obtain⟨_,_,_,_,_,_,hXC,_,hrepC⟩:=HKD.out
        obtain⟨n1,n2,n3,n4⟩:=HK4.out
        obtain⟨c9a,c9c,e9⟩:=own_form hr3
        have hEzb:=hEx.trans hxb
        have hEmb:=hEmz.trans hEzb
        have hXb:=hXz.trans hEzb
        have hown8:Own xc (fun b=>(p b∧b< w.heap.size)∨w.heap.size+3≤b) wo.heap.size 32 5 v3 (k+1) ((KL.take (k+1)).flatMap anodeC):=by
         have e1:KL.take (k+1)=KL.take k++ [KN]:=by rw[List.take_add_one,HKN.out.1];rfl
         have e2: [KN].flatMap anodeC=anodeC KN:=by simp
         rw[e1,List.flatMap_append,e2]
         refine Own.push ((hrepC.ext hEmb).ok fun b hb=>⟨hb.1,hb.2.1,Nat.lt_of_lt_of_le hb.2.2 hEmb.size⟩) ?_ hr3 hg3 ha3
         rw[anodeC_eq]
         have hpcx:∀b,(fun b=>((p b∧b< w.heap.size)∨w.heap.size+3≤b)∧some b≠(Value.slice ca k cc).ownBlock) b∧b< wx.heap.size→(fun b=>(p b∧b< w.heap.size)∨w.heap.size+3≤b) b∧some b≠(Value.slice ca k cc).ownBlock∧b< xb.heap.size:=fun b hb=>⟨hb.1.1,hb.1.2,Nat.lt_of_lt_of_le hb.2 hxb.size⟩
         exact Reps.cons (Rep.string _ _ _ (by rw[bs_size,HKN.out.2];exact hyn)) (Reps.cons ((n1.lt.ext hxb).ok hpcx) (Reps.cons ((n2.lt.ext hxb).ok hpcx) (Reps.cons ((n3.lt.ext hxb).ok hpcx) (Reps.cons ((n4.lt.ext hxb).ok hpcx) (Reps.nil _ _)))))
        have hxc:Ext w xc:=Below.grown hXb hg3 (Below.size hXb) fun k hk=>by have:=hCge _ hk.symm;have:=hw7o;omega
        have hexc:Exc g11 wo xc:=⟨Nat.le_trans (hXC.ext hEmb).1 hg3.size,fun b h1 h2=>(hg3.block b (Nat.lt_of_lt_of_le h2 (hXC.ext hEmb).1) fun e=>by have:=hCge _ e;omega).trans ((hXC.ext hEmb).2 b h1 h2)⟩
        have hA5b:=hA5z.ext hEzb
        have hA5c:A5 xc g11 (outA s) (.slice ska s.key.length skc) (.slice xva VL.length xvc) (.slice pva PQ.length pvc) (.slice ca k cc):=hA5b.block hg3.size (hg3.block _ hA5b.lt lg4.2)
        have hv3b:some g11≠v3.ownBlock:=fun e=>by
         rcases ha3 with h | h
         ·
          rw[h]at e;exact lg4.2 e
         ·
          rw[h]at e;have:=Option.some.inj e;have:=hA5b.lt;omega
        refine Lh ⟨by rw[hw9];exact hxc.set kS _,c9a,c9c,e9,by rw[hw9];exact hexc.set rfl _,by rw[hw9,e9];exact(hA5c.set (m:=outA s) rfl).2.2 _,?_⟩
        obtain⟨us9,hr9,hp9⟩:=hown8.rows
        rw[hw9,←e9]
        exact⟨us9,rows_set hr9 hv3b _,(hp9.kept fun b hb _=>Below.heap_setCell _ _ _ _ (by have:=hb.1;simp only;rcases this with h | h;(have:=h.2;omega);omega)).ok fun b hb=>⟨hb.1,hb.2.1,by simpa using hb.2.2⟩⟩
       clear HKD HK4 hEx hxb hr3 hg3 ha3 hw9 HIH HKN hA5z g4c g4f lg4 y0z y1z v0z lgsz lgdz hCge hrowC hrepC hA5 hXC hEmz hXz
       obtain⟨c9a,c9c,e9,_⟩:=HF9.out.2
       subst e9
       go_wp2_with fail
       go_roundw
       case rel=>
        obtain⟨hx9,b9a,b9c,e9,h1,h2,h3⟩:=HF9.out
        cases e9
        exact⟨k+1,_,_,by go_num,by omega,hx9,Lh ⟨h1,h2,h3⟩⟩
       case measure=>exact mZ
      ·
       have hkI:¬(k:Int)< (g.1.length:Int):=by omega
       have hke:KL.take k=KL:=List.take_of_length_le (by rw[←HKL.out,List.length_map,List.length_zip];have:=HL.out;omega)
       have hklen:KL.length=k:=by rw[←HKL.out,List.length_map,List.length_zip];have:=HL.out;omega
       have HN:Hid (ANode.mk s.n s.key VL PQ KL=R):=Lh HRG.out
       obtain⟨hXC,hA5,hOC⟩:=HK.out
       rw[hke]at hOC
       have hbrk:=HO.out.1.block (W':=wm) hXC.1 (hXC.2 g10 hne HO.out.1.lt)
       have HRB:=Lh hbrk
       have HOC:=Lh (And.intro hOC (And.intro hXC hklen))
       have rc0:=hbrk.c0
       have rf0:=hbrk.f0
       have rc1:=hbrk.c1
       have rf1:=hbrk.f1
       have rc2:=hbrk.c2
       have rf2:=hbrk.f2
       have rc3:=hbrk.c3
       have rf3:=hbrk.f3
       have rc4:=hbrk.c4
       have rf4:=hbrk.f4
       have qc0:=hA5.c0
       have qf0:=hA5.f0
       have qc1:=hA5.c1
       have qf1:=hA5.f1
       have qc2:=hA5.c2
       have qf2:=hA5.f2
       have qc3:=hA5.c3
       have qf3:=hA5.f3
       have qc4:=hA5.c4
       have qf4:=hA5.f4
       clear hke hklen HK hOC hbrk hA5 hXC
       go_wp2_with fail
       (try simp only[Exit.inBlock,Exit.then])
       refine bodyPost_ret (res_one rfl _ _ _ ⟨g10,0,none⟩ ?_ (load_anode (A5.put (n:=outA s) (xk:= .slice ska s.key.length skc) (xv:=(.slice xva VL.length xvc)) (xp:= .slice pva PQ.length pvc) (xc:= .slice ca k cc) HRB.out))) rfl ?_
       ·
        rfl
       rw[←HN.out]
       obtain⟨hOC,hXC,hklen⟩:=HOC.out
       subst hklen
       have hX8:Ext w (sa5 wm g10 (outA s) (.slice ska s.key.length skc) (.slice xva VL.length xvc) (.slice pva PQ.length pvc) (.slice ca KL.length cc)):=Ext.sa5 hXm kA _ _ _ _ _
       exact⟨⟨ska,xva,pva,ca,skc,xvc,pvc,cc,rfl,(hvk.ext hX8).ok fun b hb=> .inl hb,((HO.out.2.2.2.1.kept fun b hb hlt=>hXC.2 b kZ hlt).kept fun b hb _=>sa5_block _ _ _ _ _ _ _ kZ).ok fun b hb=> .inr kZ,((HO.out.2.2.2.2.kept fun b hb hlt=>hXC.2 b (by have hb':(p b∧b< w.heap.size)∨w.heap.size+3≤b:=hb;omega) hlt).kept fun b hb _=>sa5_block _ _ _ _ _ _ _ (by have hb':(p b∧b< w.heap.size)∨w.heap.size+3≤b:=hb;omega)).ok fun b hb=>(by have hb':(p b∧b< w.heap.size)∨w.heap.size+3≤b:=hb;exact hb'.elim (fun h=> .inl h.1) (fun h=> .inr kA)),(hOC.rep.kept fun b hb _=>sa5_block _ _ _ _ _ _ _ (by have hb':((p b∧b< w.heap.size)∨w.heap.size+3≤b)∨wo.heap.size≤b:=hb;omega)).ok fun b hb=>(by have hb':((p b∧b< w.heap.size)∨w.heap.size+3≤b)∨wo.heap.size≤b:=hb;exact hb'.elim (fun h=>h.elim (fun h=> .inl h.1) (fun h=> .inr kA)) (fun h=> .inr kA))⟩,hX8⟩
 clear hK2
 cases SB with
 | true=>
  have HR4:Hid (ANode.mk s.n s.key [] (partsP FB hs) (if FB=true then []else((gather l path hs ([],[])).1.zip (gather l path hs ([],[])).2).map fun g=>nodeP l N (path++ [g.1.n]) g.1 g.2 OW)=R):=Lh (by rw[←HR.out];rfl)
  have H4:Hid (Ext w w3∧A5 w3 g10 zeroA (.slice none 0 0) (.slice none 0 0) (.slice none 0 0) (.slice none 0 0)∧A5 w3 g11 (outA s) (.slice ska s.key.length skc) (.slice none 0 0) (.slice none 0 0) (.slice none 0 0)∧Rep w3 (fun b=>w.heap.size+3≤b) (.slice ova OW.length ovc) (spansD OW)∧Rep w3 (fun b=>w.heap.size+3≤b) (.slice none 0 0) (spansD [])):=Lh ⟨H2.out.1.trans hB3,H2.out.2.1.ext hB3,H2.out.2.2.1.ext hB3,H2.out.2.2.2.ext hB3,.nil 2⟩
  clear HR H2 hB3
  have TAIL:=Lh TAIL
  go_wp2_with fail
  exact TAIL.out _ _ _ _ none 0 [] w3 HR4 H4
 | false=>
  have HR4:Hid (ANode.mk s.n s.key OW (partsP FB hs) (if FB=true then []else((gather l path hs ([],[])).1.zip (gather l path hs ([],[])).2).map fun g=>nodeP l N (path++ [g.1.n]) g.1 g.2 OW)=R):=Lh (by rw[←HR.out];rfl)
  obtain⟨w4,hw4⟩:∃w4,w3.setCell ⟨g11,2,none⟩ (.slice ova OW.length ovc)=w4:=⟨_,rfl⟩
  have H4:Hid (Ext w w4∧A5 w4 g10 zeroA (.slice none 0 0) (.slice none 0 0) (.slice none 0 0) (.slice none 0 0)∧A5 w4 g11 (outA s) (.slice ska s.key.length skc) (.slice ova OW.length ovc) (.slice none 0 0) (.slice none 0 0)∧Rep w4 (fun b=>w.heap.size+3≤b) (.slice ova OW.length ovc) (spansD OW)∧Rep w4 (fun b=>w.heap.size+3≤b) (.slice ova OW.length ovc) (spansD OW)):=Lh (by
   have hg:=HG.out
   rw[←hw4]
   have hov4:Rep (w3.setCell ⟨g11,2,none⟩ (.slice ova OW.length ovc)) (fun b=>w.heap.size+3≤b) (.slice ova OW.length ovc) (spansD OW):=(H2.out.2.2.2.ext hB3).kept fun b hb _=>Below.heap_setCell _ _ _ _ kS
   exact⟨(H2.out.1.trans hB3).set kS _,(H2.out.2.1.ext hB3).block kI (Below.heap_setCell _ _ _ _ kS),((H2.out.2.2.1.ext hB3).set (m:=outA s) rfl).1 _,hov4,hov4⟩)
  have hbo3:=H2.out.2.2.1.ext hB3
  have oc0:=hbo3.c0
  have of0:=hbo3.f0
  have oc1:=hbo3.c1
  have of1:=hbo3.f1
  have oc2:=hbo3.c2
  have of2:=hbo3.f2
  have oc3:=hbo3.c3
  have of3:=hbo3.f3
  have oc4:=hbo3.c4
  have of4:=hbo3.f4
  have HW4:=Lh hw4
  clear HR H2 hB3 hbo3 hw4
  have TAIL:=Lh TAIL
  go_wp2_with fail
  rw[HW4.out]
  exact TAIL.out _ _ _ _ ova ovc OW w4 HR4 H4
end Go.Proofs.YtngmgjodcnknoaaGreatDoor
