/-
  Laws drawn from elder texts. Helper lemmas;no statement of the seat is proved here.
-/
import Derived.Test.YtngmgjodcnknoaaGreatDoorU13
namespace Go.Proofs.YtngmgjodcnknoaaGreatDoor
open Go.RowKit
set_option maxHeartbeats 32000000
set_option maxRecDepth 100000
set_option linter.unusedVariables false
set_option linter.unusedSimpArgs false
theorem normal_any (l:List Rule) (hok:RulesOk l):∀(N:Nat) (a:Node) (path:List Bytes) (first:Int) (p:Nat→Prop) (vl vp va vk:Value) (w:World),nsz a≤N→cntN a≤1048576→0< path.length→path.length+cntN a≤2097152→0≤first→first+cntN a≤4194304→
    Rep w p vl (rulesD l)→Rep w p vp (strsD path)→Rep w p va (attrsD a.attrs)→Rep w p vk (nodesD a.kids)→
    Calls Tryz.prog 77 #[vl,.agg #[.int .i64 a.kind,.string (bs a.name),.string (bs a.text),va,vk],vp,.int .i64 first] w fun e w'=>RetNC (fun b=>w.heap.size≤b) (normN l a path first) e w'∧Ext w w':=by
  intro N
  induction N with
  | zero=>intro a path first p vl vp va vk w hN;cases a;rw[nsz]at hN;omega
  | succ N ih=>
    intro a path first p vl vp va vk w hN hcnt hp0 hpl hf0 hf1 hvl hvp hva hvk
    have hkid:Hid (∀(i:Nat) (h:i< a.kids.length),nsz a.kids[i]≤N):=Lh fun i h=>by have:=kid_lt a i h;omega
    have hck:=cnt_kids a
    have hckl:=cntL_len a.kids
    have hal:=cntA_len a.attrs
    have hkb:cntL a.kids≤1048576:=by omega
    have hcn:a.name.length≤1048576:=by cases a;rw[cntN]at hcnt;simp only[Node.name];omega
    have HPL:=Lh (strs_len hvp)
    have IH:=Lh ih
    have HOK:=Lh hok
    obtain⟨la,lc,rfl,hlc1,hlc2⟩:=hvl.count z_rule kA
    obtain⟨pa,pc,rfl,hpc1,hpc2⟩:=hvp.count z_str kA
    obtain⟨ba,ca,rfl,_,_⟩:=hva.count z_attr kA
    obtain⟨bk,ck,rfl,_,_⟩:=hvk.count z_node kA
    obtain⟨i0,hi,hz0,hz1,hz2⟩:=info_parts infoStr
    obtain⟨j0,ji,jz0,jz1,jz2⟩:=info_parts infoStep
    obtain⟨k0,ki,kz0,kz1,kz2⟩:=info_parts infoNode
    have HA:=Lh fun W (hE:Ext w W)=>attrsort_any a.attrs p _ W kA (hva.ext hE)
    have HCT:=Lh fun W (hE:Ext w W)=>content_any N a.kids p _ W hkid.out kA (hvk.ext hE)
    have HFR:=Lh fun W (hE:Ext w W)=>front_q p p l path _ _ W (hvl.ext hE) (hvp.ext hE)
    obtain⟨SA,hSA⟩:∃S,sortA [] a.attrs=S:=⟨_,rfl⟩
    rw[hSA]at HA
    obtain⟨FB,hFB⟩:∃b,frontS l path=b:=⟨_,rfl⟩
    rw[hFB]at HFR
    obtain⟨R,hR⟩:∃R,normN l a path first=R:=⟨_,rfl⟩
    rw[hR]
    rw[normN_eq,hSA,hFB]at hR
    have HR:=Lh hR
    clear hR hFB hSA hN ih hok hcnt hva
    go_enter Tryz.func77,Tryz.ntmps77
    go_wp2_with fail
    obtain⟨w1,hw1⟩:∃w1,((w.alloc (.cells #[.int .i64 a.kind,.string (bs a.name),.string (bs a.text),.slice ba a.attrs.length ca,.slice bk a.kids.length ck] 66)).alloc (.cells #[.int .i64 0,.string ⟨#[]⟩,.string ⟨#[]⟩,.slice none 0 0,.slice none 0 0] 66))=w1:=⟨_,rfl⟩
    have hE1:Ext w w1:=by rw[←hw1];exact((Ext.refl w).alloc _).alloc _
    have hz1:w1.heap.size=w.heap.size+2:=by rw[←hw1];simp
    have hbx:B5 w1 w.heap.size a (.slice ba a.attrs.length ca) (.slice bk a.kids.length ck):=by
      rw[←hw1]
      exact B5.ext ⟨by simp,by simp[go_sem],by simp[go_sem],by simp[go_sem],by simp[go_sem],by simp[go_sem],by simp[go_sem],by simp[go_sem],by simp[go_sem],by simp[go_sem],by simp[go_sem]⟩ ((Ext.refl _).alloc _)
    have hbr:B5 w1 (w.heap.size+1) zeroN (.slice none 0 0) (.slice none 0 0):=by
      rw[←hw1]
      exact⟨by simp,by simp[go_sem,zeroN,Node.kind],by simp[go_sem,zeroN,Node.name];rfl,by simp[go_sem,zeroN,Node.text];rfl,by simp[go_sem],by simp[go_sem],by simp[go_sem],by simp[go_sem],by simp[go_sem],by simp[go_sem],by simp[go_sem]⟩
    rw[hw1]
    clear hw1
    have x1:=hbx.c1
    have x3:=hbx.c3
    have lbx:=hbx.lt
    have HB1:=Lh (And.intro hbx (And.intro hbr (And.intro hE1 hz1)))
    clear hbx hbr hE1 hz1
    refine region_merge (fun ac ac' w'=>∃(g11:Nat) (xaa:Option Addr) (nA:Nat) (xac:Nat),ac'=(((((((ac.put (some 26) (.pointer (some ⟨w.heap.size,1,none⟩))).put (some 27) (.string (bs a.name))).put (some 28) (.pointer (some ⟨w.heap.size,3,none⟩))).put (some 29) (.slice ba a.attrs.length ca)).put (some 30) (.slice xaa nA xac)).put (some 31) (.agg #[.int .i64 1,.string (bs a.name),.string ⟨#[]⟩,.slice xaa nA xac,.slice none 0 0])).put (some 11) (.pointer (some ⟨g11,0,none⟩)))∧Hid (B5 w' w.heap.size a (.slice ba a.attrs.length ca) (.slice bk a.kids.length ck)∧B5 w' (w.heap.size+1) zeroN (.slice none 0 0) (.slice none 0 0)∧B5 w' g11 (outN a.name) (.slice xaa nA xac) (.slice none 0 0)∧w.heap.size+2≤g11∧Ext w w'∧Rep w' (fun b=>w.heap.size+2≤b∧b≠g11) (.slice xaa nA xac) (attrsD SA))) ?_ ?_
    · refine rg_begin (S:=Sx w1) kB (Sx.begin _) ?_
      have hSa:Sx w1 (World.drew w1):=(Sx.begin _)
      refine gT 0 26 (.pointer (some ⟨w.heap.size,1,none⟩)) hSa ?_
      simp only[Act.put,sA,sZ,sS]
      refine gT 1 27 (.string (bs a.name)) hSa ?_ (hv:=fun w' hs=>by(have h0:=hs.cell lbx x1;go_simp))
      simp only[Act.put,sA,sZ,sS]
      refine gT 2 28 (.pointer (some ⟨w.heap.size,3,none⟩)) hSa ?_
      simp only[Act.put,sA,sZ,sS]
      refine gT 3 29 (.slice ba a.attrs.length ca) hSa ?_ (hv:=fun w' hs=>by(have h0:=hs.cell lbx x3;go_simp))
      simp only[Act.put,sA,sZ,sS]
      refine rg_two 4 6 kB ?_ ?_
      · refine tk_call 4 (some 30) 111 #[.slice ba a.attrs.length ca] rfl rfl (by rfl) (fun w'=>by first | rfl | go_simp) (R:=fun v w'=>∃(o:Option Addr) (n c:Nat),v= .slice o n c∧Rep w' (fun b=>(World.drew w1).heap.size≤b) v (attrsD SA)∧Ext (World.drew w1) w') ?_ ?_
        · refine(HA.out _ (HB1.out.2.2.1.trans hSa)).mono ?_
          rintro e w' ⟨⟨v,rfl,hv⟩,h⟩
          obtain⟨o,c,rfl,_,_⟩:=hv.count z_attr kA
          exact⟨_,rfl,o,SA.length,c,rfl,hv,h⟩
        rintro _ wc ⟨xaa,nA,xac,rfl,hua,hBc⟩
        have hSc:Sx w1 wc:=hSa.ext hBc
        refine⟨hSc,?_⟩
        simp only[Act.put,sA,sZ,sS]
        refine gT 5 31 (.agg #[.int .i64 1,.string (bs a.name),.string ⟨#[]⟩,.slice xaa nA xac,.slice none 0 0]) hSc ?_
        simp only[Act.put,sA,sZ,sS]
        refine rg_one 6 kB ?_
        refine tk_new 6 (some 11) (.cells #[.int .i64 0,.string ⟨#[]⟩,.string ⟨#[]⟩,.slice none 0 0,.slice none 0 0] 66) (fun n=> .pointer (some ⟨n,0,none⟩)) rfl rfl (by rfl) kF ?_
        intro g11 xg eg hxg hzg hC
        have hSg:Sx w1 xg:=hSc.ext hxg
        refine⟨hSg,?_⟩
        simp only[Act.put,sA,sZ,sS]
        have lC:g11< xg.heap.size:=blk_lt hC
        have hua':Rep xg (fun b=>w.heap.size+2≤b∧b≠g11) (.slice xaa nA xac) (attrsD SA):=(hua.lt.ext hxg).ok fun b hb=>⟨by have:=HB1.out.2.2.2;have:=(Sx.begin w1:Ext w1 _).size;omega,by omega⟩
        refine rg_one 7 kB ?_
        have hbz:B5 xg g11 zeroN (.slice none 0 0) (.slice none 0 0):=⟨blk_lt hC,blk_cell hC rfl,blk_cell hC rfl,blk_cell hC rfl,blk_cell hC rfl,blk_cell hC rfl,blk_free hC,blk_free hC,blk_free hC,blk_free hC,blk_free hC⟩
        refine tk_write 7 none (st5 xg g11 (outN a.name) (.slice xaa nA xac) (.slice none 0 0)) rfl rfl (by rfl) (exec_store rfl (store_nodeS (m:=outN a.name) hbz _ _ _ _ _ _)) ?_
        have hge:w1.heap.size≤g11:=by rw[eg];exact(show Ext w1 _ from hSc).size
        have hSs:Sx w1 (st5 xg g11 (outN a.name) (.slice xaa nA xac) (.slice none 0 0)):=Ext.st5 hSg hge _ _ _
        refine⟨hSs,?_⟩
        simp only[Act.put,sA,sZ,sS]
        have hbs:=hbz.put (n:=outN a.name) (xa:= .slice xaa nA xac) (xk:= .slice none 0 0)
        have hus:Rep (st5 xg g11 (outN a.name) (.slice xaa nA xac) (.slice none 0 0)) (fun b=>w.heap.size+2≤b∧b≠g11) (.slice xaa nA xac) (attrsD SA):=hua'.kept fun b hb _=>st5_block _ _ _ _ _ hb.2
        refine rg_done kB ?_
        exact⟨g11,xaa,nA,xac,kH,Lh ⟨HB1.out.1.ext hSs,HB1.out.2.1.ext hSs,hbs,by have:=HB1.out.2.2.2;omega,HB1.out.2.2.1.trans hSs,hus⟩⟩
      · refine tk_new 6 (some 11) (.cells #[.int .i64 0,.string ⟨#[]⟩,.string ⟨#[]⟩,.slice none 0 0,.slice none 0 0] 66) (fun n=> .pointer (some ⟨n,0,none⟩)) rfl rfl (by rfl) kF ?_
        intro g11 xg eg hxg hzg hC
        have hSg:Sx w1 xg:=hSa.ext hxg
        refine⟨hSg,?_⟩
        simp only[Act.put,sA,sZ,sS]
        have lC:g11< xg.heap.size:=blk_lt hC
        refine rg_one 4 kB ?_
        refine tk_call 4 (some 30) 111 #[.slice ba a.attrs.length ca] rfl rfl (by rfl) (fun w'=>by first | rfl | go_simp) (R:=fun v w'=>∃(o:Option Addr) (n c:Nat),v= .slice o n c∧Rep w' (fun b=>xg.heap.size≤b) v (attrsD SA)∧Ext xg w') ?_ ?_
        · refine(HA.out _ (HB1.out.2.2.1.trans hSg)).mono ?_
          rintro e w' ⟨⟨v,rfl,hv⟩,h⟩
          obtain⟨o,c,rfl,_,_⟩:=hv.count z_attr kA
          exact⟨_,rfl,o,SA.length,c,rfl,hv,h⟩
        rintro _ wc ⟨xaa,nA,xac,rfl,hua,hBc⟩
        have hSc:Sx w1 wc:=hSg.ext hBc
        refine⟨hSc,?_⟩
        simp only[Act.put,sA,sZ,sS]
        have hC':=(Below.block hBc g11 lC).trans hC
        clear hC
        have hC:=hC'
        clear hC'
        have hua':Rep wc (fun b=>w.heap.size+2≤b∧b≠g11) (.slice xaa nA xac) (attrsD SA):=hua.ok fun b hb=>by have:=(show Ext w1 _ from hSg).size;have:=HB1.out.2.2.2;omega
        refine gT 5 31 (.agg #[.int .i64 1,.string (bs a.name),.string ⟨#[]⟩,.slice xaa nA xac,.slice none 0 0]) hSc ?_
        simp only[Act.put,sA,sZ,sS]
        refine rg_one 7 kB ?_
        have hbz:B5 wc g11 zeroN (.slice none 0 0) (.slice none 0 0):=⟨blk_lt hC,blk_cell hC rfl,blk_cell hC rfl,blk_cell hC rfl,blk_cell hC rfl,blk_cell hC rfl,blk_free hC,blk_free hC,blk_free hC,blk_free hC,blk_free hC⟩
        refine tk_write 7 none (st5 wc g11 (outN a.name) (.slice xaa nA xac) (.slice none 0 0)) rfl rfl (by rfl) (exec_store rfl (store_nodeS (m:=outN a.name) hbz _ _ _ _ _ _)) ?_
        have hge:w1.heap.size≤g11:=by rw[eg];exact(show Ext w1 _ from hSa).size
        have hSs:Sx w1 (st5 wc g11 (outN a.name) (.slice xaa nA xac) (.slice none 0 0)):=Ext.st5 hSc hge _ _ _
        refine⟨hSs,?_⟩
        simp only[Act.put,sA,sZ,sS]
        have hbs:=hbz.put (n:=outN a.name) (xa:= .slice xaa nA xac) (xk:= .slice none 0 0)
        have hus:Rep (st5 wc g11 (outN a.name) (.slice xaa nA xac) (.slice none 0 0)) (fun b=>w.heap.size+2≤b∧b≠g11) (.slice xaa nA xac) (attrsD SA):=hua'.kept fun b hb _=>st5_block _ _ _ _ _ hb.2
        refine rg_done kB ?_
        exact⟨g11,xaa,nA,xac,kH,Lh ⟨HB1.out.1.ext hSs,HB1.out.2.1.ext hSs,hbs,by have:=HB1.out.2.2.2;omega,HB1.out.2.2.1.trans hSs,hus⟩⟩
    rintro _ w2 ⟨g11,xaa,nA,xac,rfl,HF⟩
    simp only[Act.put,sA,sZ,sS]
    obtain⟨hbx,hbr,hbo,hg,hE2,hxa⟩:=HF.out
    clear HF x1 x3 lbx HB1 HA
    go_wp2_with fail
    refine(HFR.out _ hE2).mono ?_
    rintro e w3 ⟨rfl,hD3⟩
    have hB3:=hD3.ext
    have hE3:=hE2.trans hB3
    have lg11:=hbo.lt
    clear HFR
    cases FB with
    | true=>
      have HN:Hid ((Node.mk 1 a.name [] SA (contL a.kids),(0:Int),(0:Int))=R):=Lh (by rw[←HR.out,if_pos rfl])
      have bxc4:=(hbx.ext hB3).c4
      go_wp2_with fail
      refine(HCT.out _ hE3).mono ?_
      rintro e w4 ⟨⟨uk,rfl,huk⟩,hB4⟩
      obtain⟨uka,ukc,rfl,_,_⟩:=huk.count z_node kA
      obtain⟨KL,hKL⟩:∃K,contL a.kids=K:=⟨_,rfl⟩
      rw[hKL]at huk HN⊢
      obtain⟨nK,hnK⟩:∃n,KL.length=n:=⟨_,rfl⟩
      rw[hnK]at huk⊢
      have hB34:=hB3.trans hB4
      have hbo4:=hbo.ext hB34
      have hbr4:=hbr.ext hB34
      have oc0:=hbo4.c0
      have of0:=hbo4.f0
      have oc1:=hbo4.c1
      have of1:=hbo4.f1
      have oc2:=hbo4.c2
      have of2:=hbo4.f2
      have oc3:=hbo4.c3
      have of3:=hbo4.f3
      have oc4:=hbo4.c4
      have of4:=hbo4.f4
      have HRB:Hid (B5 (w4.setCell ⟨g11,4,none⟩ (.slice uka nK ukc)) (w.heap.size+1) zeroN (.slice none 0 0) (.slice none 0 0)):=Lh (hbr4.block kI (Below.heap_setCell _ _ _ _ kS))
      have HXX:Hid (Ext w (w4.setCell ⟨g11,4,none⟩ (.slice uka nK ukc))):=Lh ((hE3.trans hB4).set kS _)
      have HXA:Hid (Rep (w4.setCell ⟨g11,4,none⟩ (.slice uka nK ukc)) (fun b=>w.heap.size+2≤b∧b≠g11) (.slice xaa nA xac) (attrsD SA)∧Rep (w4.setCell ⟨g11,4,none⟩ (.slice uka nK ukc)) (fun b=>w3.heap.size≤b) (.slice uka nK ukc) (nodesD KL)):=Lh ⟨(hxa.ext hB34).kept fun b hb _=>Below.heap_setCell _ _ _ _ hb.2,huk.kept fun b hb _=>Below.heap_setCell _ _ _ _ (by have:=hB3.size;simp only;omega)⟩
      have rc0:=hbr4.c0
      have rf0:=hbr4.f0
      have rc1:=hbr4.c1
      have rf1:=hbr4.f1
      have rc2:=hbr4.c2
      have rf2:=hbr4.f2
      have rc3:=hbr4.c3
      have rf3:=hbr4.f3
      have rc4:=hbr4.c4
      have rf4:=hbr4.f4
      clear hKL hnK huk hxa hbx hbr hbo hbo4 hbr4
      go_wp2_with fail
      (try simp only[Exit.inBlock,Exit.then])
      refine bodyPost_ret (res_node3 rfl _ _ _ ⟨w.heap.size+1,0,none⟩ ?_ (load_node (B5.put (n:=Node.mk 1 a.name [] SA KL) (xa:= .slice xaa nA xac) (xk:= .slice uka nK ukc) HRB.out))) rfl ?_
      · rfl
      rw[←HN.out]
      have hX6:=HXX.out.st5 (b:=w.heap.size+1) kA (Node.mk 1 a.name [] SA KL) (.slice xaa nA xac) (.slice uka nK ukc)
      have hlow:g11< w3.heap.size:=Nat.lt_of_lt_of_le lg11 hB3.size
      exact⟨⟨_,_,rfl,(HXA.out.1.kept fun b hb _=>st5_block _ _ _ _ _ kA).ok fun b hb=>by omega,(HXA.out.2.kept fun b hb _=>st5_block _ _ _ _ _ kA).ok fun b hb=>by omega⟩,hX6⟩
    | false=>
      have HN0:Hid (normL l a.kids a.name SA path first [] [] (first+1)=R):=Lh (by rw[←HR.out,if_neg kI])
      obtain⟨gp,op,rfl,lgp,_⟩:=str_at hvp 0 hp0
      have HF0:Hid (NFact l a path first R SA w w2 g11 (.slice ba a.attrs.length ca) (.slice bk a.kids.length ck) (.slice xaa nA xac) w3 0 (first+1) [] [] (.slice none 0 0) (.slice none 0 0)):=Lh ⟨hbx.ext hB3,hbr.ext hB3,hbo.ext hB3,(Exc.refl _ _).ext hB3,.nil 2,.nil 5,rfl,by simp[cntL],HN0.out⟩
      clear HN0 HR HCT hbx hbr hbo hD3
      go_wp2_with fail
      go_loopw [12,13,14,15,16,17,18,19,20,21,22,23,24,25] (fun sv av t _ _ _ _ _ _ _ _ _ _ _ wr=>∃(i:Nat) (at':Int) (steps:List Step) (outk:List Node) (sa:Option Addr) (scap:Nat) (oa:Option Addr) (ocap:Nat),t= .int .i64 i∧av= .int .i64 at'∧sv= .slice sa steps.length scap∧i≤a.kids.length∧steps.length≤i∧0≤at'∧at'+cntL (a.kids.drop i)≤first+cntN a∧Ext w wr∧
          Hid (NFact l a path first R SA w w2 g11 (.slice ba a.attrs.length ca) (.slice bk a.kids.length ck) (.slice xaa nA xac) wr i at' steps outk (.slice sa steps.length scap) (.slice oa outk.length ocap))) (fun _ _ t _ _ _ _ _ _ _ _ _ _ _ _=>downV a.kids.length t)
      case atStart=>exact⟨0,first+1,[],[],none,0,none,0,rfl,rfl,rfl,Nat.zero_le _,Nat.le_refl _,by omega,by simp only[List.drop_zero];omega,hE3,HF0⟩
      case round=>
        clear HF0
        obtain⟨i,at',steps,outk,sa,scap,oa,ocap,rfl,rfl,rfl,hi2,hsl,hat0,hat1,hX,HH⟩:=hrel
        have hi0:=nZ0 i
        have hwz:=hX.size
        have bxc4:=HH.out.1.c4
        have lbx:=HH.out.1.lt
        by_cases hlt:i< a.kids.length
        · have hlI:(i:Int)< (a.kids.length:Int):=by omega
          obtain⟨gk,ok,za,zk,rfl,lgk,_,d0,d1,d2,d3,d4,hza,hzk⟩:=node_at (hvk.lt.ext hX) i hlt
          have hget:=cntL_get a.kids i hlt
          have hm:=hkid.out i hlt
          have hnl:=node_len hvk i hlt
          have hcm:=cntL_mem a.kids i hlt
          have HS:Hid (normL l (a.kids.drop i) a.name SA path first steps outk at'=normL l (a.kids[i]::a.kids.drop (i+1)) a.name SA path first steps outk at'):=Lh (by rw[drop_one a.kids i hlt])
          obtain⟨x,hx⟩:∃x,a.kids[i]=x:=⟨_,rfl⟩
          rw[hx]at d0 d1 d2 hza hzk HS hget hm hnl hcm
          rw[HH.out.2.2.2.2.2.2.2.2]at HS
          obtain⟨zab,zac,rfl,_,_⟩:=hza.count z_attr kA
          obtain⟨zkb,zkc,rfl,_,_⟩:=hzk.count z_node kA
          have hxpos:=cntN_pos x
          have htx:(bs x.text).size≤4294967296:=by rw[bs_size];have:x.text.length≤cntN x:=by cases x;rw[cntN];simp only[Node.text];omega
                                                   omega
          have HS1:=HS.out
          rw[normL]at HS1
          clear hx HS
          by_cases hk2:x.kind=2
          · have q2:(x.kind==2)=true:=by rw[hk2];rfl
            have q1:(x.kind !=1)=true:=by rw[hk2];rfl
            by_cases hT:trimB x.text= []
            · have hN:normL l (a.kids.drop (i+1)) a.name SA path first steps outk at'=R:=by rw[HS1,if_neg (fun h=>h.2 hT),if_pos (by rw[hk2];decide)]
              have HN:=Lh hN
              have t1:=bs_nil _ hT
              have t2:=bs_nil2 _ hT
              have HTR:=Lh fun W=>rtrim_any (bs x.text) W htx
              have e1:bs (Lib.trimS (bs x.text).data.toList [9,10,13,32])=bs (trimB x.text):=rfl
              rw[e1]at HTR
              obtain⟨TT,hTT⟩:∃T,trimB x.text=T:=⟨_,rfl⟩
              rw[hTT]at t1 t2 HTR
              clear hN hk2 hT HS1 hTT e1
              go_wp2_with fail
              refine(HTR.out _).mono ?_
              rintro _ wv ⟨rfl,rfl⟩
              go_wp2_with fail
              go_roundw
              case rel=>exact⟨i+1,at',steps,outk,sa,scap,oa,ocap,by go_num,rfl,rfl,by omega,by omega,hat0,by omega,hX.trans ((Ext.refl wr).alloc _),Lh ((HH.out.ext ((Ext.refl wr).alloc _)).skip hlt HN.out)⟩
              case measure=>exact mZ
            · have HN:Hid ((zeroN,(24:Int),first)=R):=Lh (by rw[HS1,if_pos ⟨hk2,hT⟩])
              have t1:=bs_nnil _ hT
              have t2:=bs_nnil2 _ hT
              have HTR:=Lh fun W=>rtrim_any (bs x.text) W htx
              have e1:bs (Lib.trimS (bs x.text).data.toList [9,10,13,32])=bs (trimB x.text):=rfl
              rw[e1]at HTR
              obtain⟨TT,hTT⟩:∃T,trimB x.text=T:=⟨_,rfl⟩
              rw[hTT]at t1 t2 HTR
              clear hk2 hT HS1 hTT e1
              go_wp2_with fail
              refine(HTR.out _).mono ?_
              rintro _ wv ⟨rfl,rfl⟩
              have HRB:=Lh (HH.out.2.1.ext ((Ext.refl wr).alloc (.cells #[.int .i64 x.kind,.string (bs x.name),.string (bs x.text),.slice zab x.attrs.length zac,.slice zkb x.kids.length zkc] 66)))
              have HXX:=Lh (hX.alloc (.cells #[.int .i64 x.kind,.string (bs x.name),.string (bs x.text),.slice zab x.attrs.length zac,.slice zkb x.kids.length zkc] 66))
              have rc0:=HRB.out.c0
              have rf0:=HRB.out.f0
              have rc1:=HRB.out.c1
              have rf1:=HRB.out.f1
              have rc2:=HRB.out.c2
              have rf2:=HRB.out.f2
              have rc3:=HRB.out.c3
              have rf3:=HRB.out.f3
              have rc4:=HRB.out.c4
              have rf4:=HRB.out.f4
              go_wp2_with fail
              (try simp only[Exit.inBlock,Exit.then])
              refine bodyPost_ret (res_node3 rfl _ _ _ ⟨w.heap.size+1,0,none⟩ ?_ (load_node (B5.put (n:=zeroN) (xa:= .slice none 0 0) (xk:= .slice none 0 0) HRB.out))) rfl ?_
              · rfl
              rw[←HN.out]
              exact⟨⟨_,_,rfl,.nil 2,.nil 5⟩,HXX.out.st5 kA zeroN _ _⟩
          · have q2:(x.kind==2)=false:=by rw[beq_eq_false_iff_ne];exact hk2
            by_cases hk1:x.kind=1
            · have q1:(x.kind !=1)=false:=by rw[hk1];rfl
              rw[if_neg (fun h=>hk2 h.1),if_neg (by simpa using hk1)]at HS1
              have HS2:=Lh HS1
              have HK1:=Lh hk1
              clear HS1 hk1 hk2 htx
              go_wp2_with fail
              obtain⟨w4,hw4⟩:∃w4,wr.alloc (.cells #[.int .i64 x.kind,.string (bs x.name),.string (bs x.text),.slice zab x.attrs.length zac,.slice zkb x.kids.length zkc] 66)=w4:=⟨_,rfl⟩
              have hE4:Ext wr w4:=by rw[←hw4];exact(Ext.refl wr).alloc _
              have b15:B5 w4 wr.heap.size x (.slice zab x.attrs.length zac) (.slice zkb x.kids.length zkc):=by
                rw[←hw4]
                exact⟨by simp,by simp[go_sem],by simp[go_sem],by simp[go_sem],by simp[go_sem],by simp[go_sem],by simp[go_sem],by simp[go_sem],by simp[go_sem],by simp[go_sem],by simp[go_sem]⟩
              rw[hw4]
              have b15c1:=b15.c1
              have l15:=b15.lt
              have HB15:=Lh b15
              obtain⟨us,hus,hul,_,_,hsrc⟩:=rep_src (hvp.ext (hX.trans hE4)) unStr szStr
              have hxn:=hnl.1
              clear hw4 b15 d0 d1 d2 d3 d4 bxc4
              refine region_merge (fun ac ac' w'=>∃(gap:Nat) (gbp:Nat) (v2p:Value) (v3p:Value),ac'=((((((((ac.put (some 68) (.slice (some ⟨gap,0,none⟩) 0 0)).put (some 69) (.slice (some ⟨gp,op,none⟩) path.length pc)).put (some 70) (v2p)).put (some 71) (.pointer (some ⟨wr.heap.size,1,none⟩))).put (some 72) (.string (bs x.name))).put (some 73) (.slice (some ⟨gbp,0,none⟩) 1 1)).put (some 74) (v3p)).put (some 16) (v3p))∧Sx w4 w'∧World.ownsRow w' w4.heap.size 9 1 v3p (path.length+1) (us++([.string (bs x.name)]:List Value))) ?_ ?_
              · refine rg_begin (S:=Sx w4) kB (Sx.begin _) ?_
                have hSp:Sx w4 (World.drew w4):=(Sx.begin _)
                refine gT 1 69 (.slice (some ⟨gp,op,none⟩) path.length pc) hSp ?_
                simp only[Act.put,sA,sZ,sS]
                refine gT 3 71 (.pointer (some ⟨wr.heap.size,1,none⟩)) hSp ?_
                simp only[Act.put,sA,sZ,sS]
                refine gT 4 72 (.string (bs x.name)) hSp ?_ (hv:=fun w' hs=>by(have h0:=hs.cell l15 b15c1;go_simp))
                simp only[Act.put,sA,sZ,sS]
                refine rg_two 0 5 kB ?_ ?_
                · refine tk_new 0 (some 68) (.cells #[] 9) (fun n=> .slice (some ⟨n,0,none⟩) 0 0) rfl rfl (by rfl) kF ?_
                  intro gap xap egap hxap hzxap hgap
                  have hSap:Sx w4 xap:=hSp.ext hxap
                  refine⟨hSap,?_⟩
                  simp only[Act.put,sA,sZ,sS]
                  have ownAp:xap.ownsRow w4.heap.size 9 1 (.slice (some ⟨gap,0,none⟩) 0 0) 0 []:=own_empty' (by rw[egap];exact(show Ext w4 _ from hSp).size) hgap
                  refine rg_two 2 5 kB ?_ ?_
                  · refine tk_src 2 (some 70) rfl rfl (by rfl) (.tmp 68) (.tmp 69) 27 rfl w4.heap.size 9 i0 (.string ⟨#[]⟩) 1 16 Tryz.underlying27 hi hz0 hz1 hz2 rfl kD _ 0 [] rfl ownAp (.slice (some ⟨gp,op,none⟩) path.length pc) path.length us rfl (hsrc.ext hSap) (hus.one (flat_one one_str path)) kC kA (show Ext w4 _ from hSap).size ?_
                    intro v2p xcp hr2p hg2p ha2p
                    have hScp:Sx w4 xcp:=sx_grown hSap ownAp hg2p
                    refine⟨hScp,?_⟩
                    simp only[Act.put,sA,sZ,sS]
                    have ownBp:xcp.ownsRow w4.heap.size 9 1 v2p path.length us:=by rw[Nat.zero_add,List.nil_append]at hr2p;exact hr2p
                    refine rg_one 5 kB ?_
                    refine tk_new 5 (some 73) (.cells #[.string (bs x.name)] 9) (fun n=> .slice (some ⟨n,0,none⟩) 1 1) rfl rfl (by rfl) kF ?_
                    intro gbp xbp egbp hxbp hzxbp hCp
                    have hSbp:Sx w4 xbp:=hScp.ext hxbp
                    refine⟨hSbp,?_⟩
                    simp only[Act.put,sA,sZ,sS]
                    have lCp:gbp< xbp.heap.size:=blk_lt hCp
                    have own':=rows_ext ownBp hxbp
                    clear ownBp
                    have ownBp:=own'
                    clear own'
                    refine rg_one 6 kB ?_
                    refine tk_src 6 (some 74) rfl rfl (by rfl) (.tmp 70) (.tmp 73) 27 rfl w4.heap.size 9 i0 (.string ⟨#[]⟩) 1 16 Tryz.underlying27 hi hz0 hz1 hz2 rfl kD _ path.length us rfl ownBp (.slice (some ⟨gbp,0,none⟩) 1 1) 1 [.string (bs x.name)] rfl (Src.block hCp rfl) kE kC kA (show Ext w4 _ from hSbp).size ?_
                    intro v3p xdp hr3p hg3p ha3p
                    have hSdp:Sx w4 xdp:=sx_grown hSbp ownBp hg3p
                    refine⟨hSdp,?_⟩
                    simp only[Act.put,sA,sZ,sS]
                    refine gT 7 16 (v3p) hSdp ?_
                    simp only[Act.put,sA,sZ,sS]
                    refine rg_done kB ?_
                    exact⟨gap,gbp,v2p,v3p,kH,hSdp,hr3p⟩
                  · refine tk_new 5 (some 73) (.cells #[.string (bs x.name)] 9) (fun n=> .slice (some ⟨n,0,none⟩) 1 1) rfl rfl (by rfl) kF ?_
                    intro gbp xbp egbp hxbp hzxbp hCp
                    have hSbp:Sx w4 xbp:=hSap.ext hxbp
                    refine⟨hSbp,?_⟩
                    simp only[Act.put,sA,sZ,sS]
                    have lCp:gbp< xbp.heap.size:=blk_lt hCp
                    have own':=rows_ext ownAp hxbp
                    clear ownAp
                    have ownAp:=own'
                    clear own'
                    have neCp:gbp≠gap:=by have:=blk_lt hgap;omega
                    refine rg_one 2 kB ?_
                    refine tk_src 2 (some 70) rfl rfl (by rfl) (.tmp 68) (.tmp 69) 27 rfl w4.heap.size 9 i0 (.string ⟨#[]⟩) 1 16 Tryz.underlying27 hi hz0 hz1 hz2 rfl kD _ 0 [] rfl ownAp (.slice (some ⟨gp,op,none⟩) path.length pc) path.length us rfl (hsrc.ext hSbp) (hus.one (flat_one one_str path)) kC kA (show Ext w4 _ from hSbp).size ?_
                    intro v2p xcp hr2p hg2p ha2p
                    have hScp:Sx w4 xcp:=sx_grown hSbp ownAp hg2p
                    refine⟨hScp,?_⟩
                    simp only[Act.put,sA,sZ,sS]
                    have ownBp:xcp.ownsRow w4.heap.size 9 1 v2p path.length us:=by rw[Nat.zero_add,List.nil_append]at hr2p;exact hr2p
                    have hC':=(hg2p.block gbp (blk_lt hCp) (by intro e;exact neCp (Option.some.inj e))).trans hCp
                    clear hCp
                    have hCp:=hC'
                    clear hC'
                    refine rg_one 6 kB ?_
                    refine tk_src 6 (some 74) rfl rfl (by rfl) (.tmp 70) (.tmp 73) 27 rfl w4.heap.size 9 i0 (.string ⟨#[]⟩) 1 16 Tryz.underlying27 hi hz0 hz1 hz2 rfl kD _ path.length us rfl ownBp (.slice (some ⟨gbp,0,none⟩) 1 1) 1 [.string (bs x.name)] rfl (Src.block hCp rfl) kE kC kA (show Ext w4 _ from hScp).size ?_
                    intro v3p xdp hr3p hg3p ha3p
                    have hSdp:Sx w4 xdp:=sx_grown hScp ownBp hg3p
                    refine⟨hSdp,?_⟩
                    simp only[Act.put,sA,sZ,sS]
                    refine gT 7 16 (v3p) hSdp ?_
                    simp only[Act.put,sA,sZ,sS]
                    refine rg_done kB ?_
                    exact⟨gap,gbp,v2p,v3p,kH,hSdp,hr3p⟩
                · refine tk_new 5 (some 73) (.cells #[.string (bs x.name)] 9) (fun n=> .slice (some ⟨n,0,none⟩) 1 1) rfl rfl (by rfl) kF ?_
                  intro gbp xbp egbp hxbp hzxbp hCp
                  have hSbp:Sx w4 xbp:=hSp.ext hxbp
                  refine⟨hSbp,?_⟩
                  simp only[Act.put,sA,sZ,sS]
                  have lCp:gbp< xbp.heap.size:=blk_lt hCp
                  refine rg_one 0 kB ?_
                  refine tk_new 0 (some 68) (.cells #[] 9) (fun n=> .slice (some ⟨n,0,none⟩) 0 0) rfl rfl (by rfl) kF ?_
                  intro gap xap egap hxap hzxap hgap
                  have hSap:Sx w4 xap:=hSbp.ext hxap
                  refine⟨hSap,?_⟩
                  simp only[Act.put,sA,sZ,sS]
                  have ownAp:xap.ownsRow w4.heap.size 9 1 (.slice (some ⟨gap,0,none⟩) 0 0) 0 []:=own_empty' (by rw[egap];exact(show Ext w4 _ from hSbp).size) hgap
                  have hC':=(Below.block hxap gbp lCp).trans hCp
                  clear hCp
                  have hCp:=hC'
                  clear hC'
                  have neCp:gbp≠gap:=by omega
                  refine rg_one 2 kB ?_
                  refine tk_src 2 (some 70) rfl rfl (by rfl) (.tmp 68) (.tmp 69) 27 rfl w4.heap.size 9 i0 (.string ⟨#[]⟩) 1 16 Tryz.underlying27 hi hz0 hz1 hz2 rfl kD _ 0 [] rfl ownAp (.slice (some ⟨gp,op,none⟩) path.length pc) path.length us rfl (hsrc.ext hSap) (hus.one (flat_one one_str path)) kC kA (show Ext w4 _ from hSap).size ?_
                  intro v2p xcp hr2p hg2p ha2p
                  have hScp:Sx w4 xcp:=sx_grown hSap ownAp hg2p
                  refine⟨hScp,?_⟩
                  simp only[Act.put,sA,sZ,sS]
                  have ownBp:xcp.ownsRow w4.heap.size 9 1 v2p path.length us:=by rw[Nat.zero_add,List.nil_append]at hr2p;exact hr2p
                  have hC':=(hg2p.block gbp (blk_lt hCp) (by intro e;exact neCp (Option.some.inj e))).trans hCp
                  clear hCp
                  have hCp:=hC'
                  clear hC'
                  refine rg_one 6 kB ?_
                  refine tk_src 6 (some 74) rfl rfl (by rfl) (.tmp 70) (.tmp 73) 27 rfl w4.heap.size 9 i0 (.string ⟨#[]⟩) 1 16 Tryz.underlying27 hi hz0 hz1 hz2 rfl kD _ path.length us rfl ownBp (.slice (some ⟨gbp,0,none⟩) 1 1) 1 [.string (bs x.name)] rfl (Src.block hCp rfl) kE kC kA (show Ext w4 _ from hScp).size ?_
                  intro v3p xdp hr3p hg3p ha3p
                  have hSdp:Sx w4 xdp:=sx_grown hScp ownBp hg3p
                  refine⟨hSdp,?_⟩
                  simp only[Act.put,sA,sZ,sS]
                  refine gT 7 16 (v3p) hSdp ?_
                  simp only[Act.put,sA,sZ,sS]
                  refine rg_done kB ?_
                  exact⟨gap,gbp,v2p,v3p,kH,hSdp,hr3p⟩
              rintro _ w5 ⟨gap,gbp,v2p,v3p,rfl,hS5,hr5⟩
              simp only[Act.put,sA,sZ,sS]
              have hrep5:Rep w5 (fun b=>True∨w4.heap.size≤b) v3p (strsD (path++ [x.name])):=Own.rep (p:=fun _=>True) (base:=w4.heap.size) (e:=9) (n:=path.length+1) ⟨_,hr5,by
                rw[List.flatMap_append,List.flatMap_singleton]
                have:=(hus.lt.append (Reps.cons (Rep.string w4 (fun b=>p b∧b< w4.heap.size) _ (by rw[bs_size];exact hxn)) (Reps.nil _ _))).ext (show Ext w4 w5 from hS5)
                refine this.ok fun b hb=>⟨trivial,fun e=> ?_,Nat.lt_of_lt_of_le hb.2 (show Ext w4 w5 from hS5).size⟩
                rcases hr5.2 with⟨_,hn⟩ | ⟨g,cap,cur,rfl,hg,_⟩
                · omega
                · have:b=g:=Option.some.inj e
                  omega⟩
              have hP2l:(path++ [x.name]).length=path.length+1:=by simp
              have hfr:=findS_range (path++ [x.name]) l 0
              obtain⟨P2,hP2⟩:∃P,path++ [x.name]=P:=⟨_,rfl⟩
              rw[hP2]at hrep5 hP2l HS2 hfr
              obtain⟨v3a,v3c,rfl,_,_⟩:=hrep5.count z_str kA
              have hS5':Ext w4 w5:=hS5
              have hX5:Ext wr w5:=hE4.trans hS5'
              have HFC:=Lh fun W (hE:Ext w5 W)=>find_q p _ l P2 _ _ W (hvl.ext ((hX.trans hX5).trans hE)) (hrep5.ext hE)
              have HIH:=Lh fun W (hE:Ext w5 W)=>IH.out x P2 at' (fun _=>True) _ _ _ _ W hm kA kA kA hat0 kA ((hvl.ext ((hX.trans hX5).trans hE)).ok fun _ _=>trivial) ((hrep5.ext hE).ok fun _ _=>trivial) ((hza.ext (hX5.trans hE)).ok fun _ _=>trivial) ((hzk.ext (hX5.trans hE)).ok fun _ _=>trivial)
              have hkc:=cnt_normN l x P2 at'
              obtain⟨fi,hfi⟩:∃fi,findS P2 l 0=fi:=⟨_,rfl⟩
              rw[hfi]at HFC HS2 hfr
              have HHK:=Lh (And.intro hX (And.intro hX5 (And.intro hE4 (And.intro hS5' (And.intro hza hzk)))))
              have hxc:cntN x≤1048576:=by omega
              have HG:=Lh (And.intro hget (And.intro hm hxc))
              clear hP2 hP2l hfi hr5 hus hul hsrc hrep5 b15c1 hm hcm hget hS5
              go_wp2_with fail
              refine(HFC.out _ (Ext.refl _)).mono ?_
              rintro e w6 ⟨rfl,hD6⟩
              have hX6:=hX5.trans hD6.ext
              have HS3:=HS2.out
              by_cases hneg:fi< 0
              · have HN:Hid ((zeroN,(24:Int),at')=R):=Lh (by rw[HS3,if_pos hneg])
                clear HS3 HS2
                have HRB:=Lh (HH.out.2.1.ext hX6)
                have HXX:=Lh (hX.trans hX6)
                have rc0:=HRB.out.c0
                have rf0:=HRB.out.f0
                have rc1:=HRB.out.c1
                have rf1:=HRB.out.f1
                have rc2:=HRB.out.c2
                have rf2:=HRB.out.f2
                have rc3:=HRB.out.c3
                have rf3:=HRB.out.f3
                have rc4:=HRB.out.c4
                have rf4:=HRB.out.f4
                go_wp2_with fail
                (try simp only[Exit.inBlock,Exit.then])
                refine bodyPost_ret (res_node3 rfl _ _ _ ⟨w.heap.size+1,0,none⟩ ?_ (load_node (B5.put (n:=zeroN) (xa:= .slice none 0 0) (xk:= .slice none 0 0) HRB.out))) rfl ?_
                · rfl
                rw[←HN.out]
                exact⟨⟨_,_,rfl,.nil 2,.nil 5⟩,HXX.out.st5 kA zeroN _ _⟩
              · rw[if_neg hneg]at HS3
                obtain⟨j,hj⟩:∃j:Nat,fi=(j:Int):=⟨fi.toNat,by omega⟩
                subst hj
                have hjl:j< l.length:=by omega
                have hjlI:(j:Int)< (l.length:Int):=by omega
                have hj0:=nZ0 j
                obtain⟨gr,or,vrp,vrk,rfl,lgr,_,r0,r1,hrp,hrk⟩:=rule_at hvl j hjl
                have hro:=HOK.out _ (List.getElem_mem hjl)
                rw[Int.toNat_natCast,List.getD_eq_getElem?_getD,List.getElem?_eq_getElem hjl,Option.getD_some]at HS3
                obtain⟨rj,hrj⟩:∃rj,l[j]=rj:=⟨_,rfl⟩
                rw[hrj]at hrp hrk hro HS3
                obtain⟨rpa,rpc,rfl,_,_⟩:=hrp.count z_str kA
                obtain⟨rka,rkc,rfl,_,_⟩:=hrk.count z_str kA
                obtain⟨K,hK⟩:∃K,normN l x P2 at'=K:=⟨_,rfl⟩
                rw[hK]at HIH HS3 hkc
                obtain⟨kd,ke,kw⟩:=K
                simp only at hkc
                have HS4:=Lh HS3
                have hb6:=HB15.out.ext (hS5'.trans hD6.ext)
                have pc0:=hb6.c0
                have pf0:=hb6.f0
                have pc1:=hb6.c1
                have pf1:=hb6.f1
                have pc2:=hb6.c2
                have pf2:=hb6.f2
                have pc3:=hb6.c3
                have pf3:=hb6.f3
                have pc4:=hb6.c4
                have pf4:=hb6.f4
                clear HS2 HS3 hrj hK hneg HFC hfr
                go_wp2_with fail
                refine(HIH.out _ hD6.ext).mono ?_
                rintro e w7 ⟨⟨ya,yk,rfl,hya,hyk⟩,hB7⟩
                have hX7:=hX6.trans hB7
                simp only at hya hyk⊢
                obtain⟨yaa,yac,rfl,_,_⟩:=hya.count z_attr kA
                obtain⟨yka,ykc,rfl,_,_⟩:=hyk.count z_node kA
                obtain⟨yan,hyan⟩:∃n,kd.attrs.length=n:=⟨_,rfl⟩
                obtain⟨ykn,hykn⟩:∃n,kd.kids.length=n:=⟨_,rfl⟩
                rw[hyan]at hya⊢
                rw[hykn]at hyk⊢
                clear hyan hykn HIH
                obtain⟨w8,hw8⟩:∃w8,w7.alloc (.cells #[.int .i64 kd.kind,.string (bs kd.name),.string (bs kd.text),.slice yaa yan yac,.slice yka ykn ykc] 66)=w8:=⟨_,rfl⟩
                have hE8:Ext w7 w8:=by rw[←hw8];exact(Ext.refl w7).alloc _
                have hX8:=hX7.trans hE8
                have b18:B5 w8 w7.heap.size kd (.slice yaa yan yac) (.slice yka ykn ykc):=by
                  rw[←hw8]
                  exact⟨by simp,by simp[go_sem],by simp[go_sem],by simp[go_sem],by simp[go_sem],by simp[go_sem],by simp[go_sem],by simp[go_sem],by simp[go_sem],by simp[go_sem],by simp[go_sem]⟩
                have HW8:=Lh hw8
                clear hw8
                by_cases hke:ke=0
                · have qe:(ke !=0)=false:=by rw[hke];rfl
                  have HS5:=HS4.out
                  (try simp only at HS5)
                  rw[if_neg (by simpa using hke)]at HS5
                  have HS6:=Lh HS5
                  clear HS4 HS5 hke
                  go_wp2_with fail
                  rw[HW8.out]
                  have s0:=(HHK.out.1.trans hX8).keep lgr r0
                  have s1:=(HHK.out.1.trans hX8).keep lgr r1
                  have lgr8:gr< w8.heap.size:=Nat.lt_of_lt_of_le lgr (HHK.out.1.trans hX8).size
                  have hya8:=hya.ext hE8
                  have hyk8:=hyk.ext hE8
                  have HKC:=Lh fun W (hE:Ext w8 W)=>key_any rj.keys rj.path kd _ p _ _ _ _ W kA hro.1 hro.2 (hrp.ext ((HHK.out.1.trans hX8).trans hE)) (hrk.ext ((HHK.out.1.trans hX8).trans hE)) (hya8.ext hE) (hyk8.ext hE)
                  obtain⟨KO,hKO⟩:∃K,keyS kd rj.keys=K:=⟨_,rfl⟩
                  rw[hKO]at HKC
                  have HS7:=HS6.out
                  rw[hKO]at HS7
                  obtain⟨KEY,hKEY⟩:∃K,KO.getD []=K:=⟨_,rfl⟩
                  obtain⟨kb,hkb⟩:∃b,KO.isSome=b:=⟨_,rfl⟩
                  rw[hKEY,hkb]at HKC
                  have HS8:=Lh (And.intro HS7 (And.intro hKEY hkb))
                  have b18c0:=b18.c0
                  have b18f0:=b18.f0
                  have b18c1:=b18.c1
                  have b18f1:=b18.f1
                  have b18c2:=b18.c2
                  have b18f2:=b18.f2
                  have b18c3:=b18.c3
                  have b18f3:=b18.f3
                  have b18c4:=b18.c4
                  have b18f4:=b18.f4
                  have l18:=b18.lt
                  have HYS:=Lh (And.intro hya8 (And.intro hyk8 (And.intro b18 (And.intro hX6.size hB7.size))))
                  clear hKO HS6 HS7 hKEY hkb r0 r1 hya hyk hya8 hyk8 b18 hrp hrk hro
                  refine rg_begin (S:=Sx w8) kB (Sx.begin _) ?_
                  have hSk:Sx w8 (World.drew w8):=(Sx.begin _)
                  refine gT 0 97 (.slice (some ⟨gr,or,none⟩) l.length lc) hSk ?_
                  simp only[Act.put,sA,sZ,sS]
                  refine gT 1 98 (.int .i64 j) hSk ?_
                  simp only[Act.put,sA,sZ,sS]
                  refine gT 2 99 (.pointer (some ⟨gr,or+j*2,none⟩)) hSk ?_
                  simp only[Act.put,sA,sZ,sS]
                  refine gT 3 100 (.agg #[.slice rpa rj.path.length rpc,.slice rka rj.keys.length rkc]) hSk ?_ (hv:=fun w' hs=>by(have h0:=hs.cell lgr8 s0;have h1:=hs.cell lgr8 s1;go_simp))
                  simp only[Act.put,sA,sZ,sS]
                  refine gT 4 101 (.agg #[.int .i64 kd.kind,.string (bs kd.name),.string (bs kd.text),.slice yaa yan yac,.slice yka ykn ykc]) hSk ?_ (hv:=fun w' hs=>by(have h0:=hs.cell l18 b18c0;have h1:=hs.cell l18 b18c1;have h2:=hs.cell l18 b18c2;have h3:=hs.cell l18 b18c3;have h4:=hs.cell l18 b18c4;go_simp))
                  simp only[Act.put,sA,sZ,sS]
                  refine rg_call 5 (some 102) 100 #[.agg #[.slice rpa rj.path.length rpc,.slice rka rj.keys.length rkc],.agg #[.int .i64 kd.kind,.string (bs kd.name),.string (bs kd.text),.slice yaa yan yac,.slice yka ykn ykc]] rfl rfl kB (by rfl) (fun w'=>by first | rfl | go_simp) (R:=fun v w'=>∃kv,v= .tuple #[kv,.bool kb]∧Rep w' (fun b=>w8.heap.size≤b) kv (strsD KEY)∧Ext (World.drew w8) w') ?_ ?_
                  · refine(HKC.out (World.drew w8) hSk).mono ?_
                    rintro e w' ⟨⟨kv,rfl,hkv⟩,h⟩
                    exact⟨_,rfl,kv,rfl,hkv,h⟩
                  rintro _ wrk1 ⟨kv,rfl,hkv,hBrk1⟩
                  have hSk1:=hSk.ext hBrk1
                  refine⟨hSk1,?_⟩
                  simp only[Act.put,sA,sZ,sS]
                  refine gT 6 96 (.tuple #[kv,.bool kb]) hSk1 ?_
                  simp only[Act.put,sA,sZ,sS]
                  refine gT 7 103 (kv) hSk1 ?_
                  simp only[Act.put,sA,sZ,sS]
                  refine gT 8 104 (.bool kb) hSk1 ?_
                  simp only[Act.put,sA,sZ,sS]
                  refine gT 9 21 (kv) hSk1 ?_
                  simp only[Act.put,sA,sZ,sS]
                  refine gT 10 22 (.bool kb) hSk1 ?_
                  simp only[Act.put,sA,sZ,sS]
                  refine rg_done kB ?_
                  have hX9:=hX8.trans (show Ext w8 wrk1 from hSk1)
                  cases kb with
                  | false=>
                    have HN:Hid ((zeroN,(22:Int),at')=R):=Lh (by
                      obtain⟨h1,h2,h3⟩:=HS8.out
                      cases KO with
                      | none=>exact h1.symm
                      | some k=>cases h3)
                    clear HS8
                    have HRB:=Lh (HH.out.2.1.ext hX9)
                    have HXX:=Lh (hX.trans hX9)
                    have rc0:=HRB.out.c0
                    have rf0:=HRB.out.f0
                    have rc1:=HRB.out.c1
                    have rf1:=HRB.out.f1
                    have rc2:=HRB.out.c2
                    have rf2:=HRB.out.f2
                    have rc3:=HRB.out.c3
                    have rf3:=HRB.out.f3
                    have rc4:=HRB.out.c4
                    have rf4:=HRB.out.f4
                    go_wp2_with fail
                    (try simp only[Exit.inBlock,Exit.then])
                    refine bodyPost_ret (res_node3 rfl _ _ _ ⟨w.heap.size+1,0,none⟩ ?_ (load_node (B5.put (n:=zeroN) (xa:= .slice none 0 0) (xk:= .slice none 0 0) HRB.out))) rfl ?_
                    · rfl
                    rw[←HN.out]
                    exact⟨⟨_,_,rfl,.nil 2,.nil 5⟩,HXX.out.st5 kA zeroN _ _⟩
                  | true=>
                    have HS9:Hid ((if(steps.any fun s=>stepB s ⟨x.name,KEY⟩)=true then(zeroN,(23:Int),at')else normL l (a.kids.drop (i+1)) a.name SA path first (insAt steps (steps.countP fun s=>aheadB s ⟨x.name,KEY⟩) ⟨x.name,KEY⟩) (insAt outk (steps.countP fun s=>aheadB s ⟨x.name,KEY⟩) kd) (at'+elemsN x))=R):=Lh (by
                      obtain⟨h1,h2,h3⟩:=HS8.out
                      cases KO with
                      | none=>cases h3
                      | some k=>rw[h1];simp only[Option.getD_some]at h2;rw[h2])
                    clear HS8
                    obtain⟨kva,kvc,rfl,_,_⟩:=hkv.count z_str kA
                    obtain⟨kvn,hkvn⟩:∃n,KEY.length=n:=⟨_,rfl⟩
                    rw[hkvn]at hkv⊢
                    clear hkvn
                    have hb15k:=HB15.out.ext ((HHK.out.2.2.2.1.trans hD6.ext).trans ((hB7.trans hE8).trans (show Ext w8 wrk1 from hSk1)))
                    have ec0:=hb15k.c0
                    have ef0:=hb15k.f0
                    have ec1:=hb15k.c1
                    have ef1:=hb15k.f1
                    have ec2:=hb15k.c2
                    have ef2:=hb15k.f2
                    have ec3:=hb15k.c3
                    have ef3:=hb15k.f3
                    have ec4:=hb15k.c4
                    have ef4:=hb15k.f4
                    obtain⟨PL,hPL⟩:∃P,(steps.countP fun s=>aheadB s ⟨x.name,KEY⟩)=P:=⟨_,rfl⟩
                    obtain⟨AN,hAN⟩:∃A,(steps.any fun s=>stepB s ⟨x.name,KEY⟩)=A:=⟨_,rfl⟩
                    have hPLle:PL≤steps.length:=by rw[←hPL];exact List.countP_le_length
                    rw[hPL,hAN]at HS9
                    have HI0:Hid (0+(steps.drop 0).countP (fun s=>aheadB s ⟨x.name,KEY⟩)=PL∧(steps.drop 0).any (fun s=>stepB s ⟨x.name,KEY⟩)=AN):=Lh ⟨by rw[Nat.zero_add];exact hPL,hAN⟩
                    have hdv:=HH.out.2.2.2.2.1
                    have hxn':=hnl.1
                    obtain⟨wo,hwo⟩:∃wo,wo=wr:=⟨_,rfl⟩
                    subst hwo
                    clear hPL hAN
                    go_wp2_with fail
                    obtain⟨w10,hw10⟩:∃w10,wrk1.alloc (.cells #[.string (bs x.name),.slice kva kvn kvc] 101)=w10:=⟨_,rfl⟩
                    have hE10:Ext wrk1 w10:=by rw[←hw10];exact(Ext.refl wrk1).alloc _
                    have l23:wrk1.heap.size< w10.heap.size:=by rw[←hw10];simp
                    have m23c0:w10.cell? ⟨wrk1.heap.size,0,none⟩=some (.string (bs x.name)):=by rw[←hw10];simp[go_sem]
                    have m23c1:w10.cell? ⟨wrk1.heap.size,1,none⟩=some (.slice kva kvn kvc):=by rw[←hw10];simp[go_sem]
                    rw[hw10]
                    have hX10:=hX9.trans hE10
                    have hkv10:=hkv.ext hE10
                    have hdv10:=hdv.ext hX10
                    have HM10:=Lh (And.intro hX10 (And.intro hkv10 (And.intro hdv10 (And.intro hb15k hE10))))
                    clear hw10 ec0 ec1 ec2 ec3 ec4 ef0 ef1 ef2 ef3 ef4 hkv hdv
                    go_loopw [24,25] (fun u v wr=>∃(pl q:Nat),u= .int .i64 pl∧v= .int .i64 q∧q≤steps.length∧pl≤q∧Ext w10 wr∧Hid (pl+(steps.drop q).countP (fun s=>aheadB s ⟨x.name,KEY⟩)=PL∧(steps.drop q).any (fun s=>stepB s ⟨x.name,KEY⟩)=AN)) (fun _ t _=>downV steps.length t)
                    case atStart=>exact⟨0,0,rfl,rfl,Nat.zero_le _,Nat.le_refl _,Ext.refl _,HI0⟩
                    case round=>
                      clear HI0
                      obtain⟨pl,q,rfl,rfl,hq,hpl,hXq,HI⟩:=hrel
                      have hq0:=nZ0 q
                      have hpl0:=nZ0 pl
                      have et0:=hXq.keep l23 m23c0
                      have et1:=hXq.keep l23 m23c1
                      have l23e:wrk1.heap.size< wr.heap.size:=Nat.lt_of_lt_of_le l23 hXq.size
                      obtain⟨wq,hwq⟩:∃wq,wq=wr:=⟨_,rfl⟩
                      subst hwq
                      by_cases hql:q< steps.length
                      · have hqI:(q:Int)< (steps.length:Int):=by omega
                        obtain⟨gs,os,ky,rfl,lgse,_,ey0,ey1,hry⟩:=step_at (hdv10.ext hXq) q hql
                        have hyn:=step_len (hdv10.ext hXq) q hql
                        have HC2:Hid ((steps.drop q).countP (fun s=>aheadB s ⟨x.name,KEY⟩)=(steps.drop (q+1)).countP (fun s=>aheadB s ⟨x.name,KEY⟩)+(if aheadB steps[q] ⟨x.name,KEY⟩=true then 1 else 0)∧(steps.drop q).any (fun s=>stepB s ⟨x.name,KEY⟩)=(stepB steps[q] ⟨x.name,KEY⟩ || (steps.drop (q+1)).any (fun s=>stepB s ⟨x.name,KEY⟩))):=Lh (by rw[drop_one steps q hql,List.countP_cons,List.any_cons];exact⟨rfl,rfl⟩)
                        obtain⟨y,hy⟩:∃y,steps[q]=y:=⟨_,rfl⟩
                        rw[hy]at ey0 hry hyn HC2
                        have HCE:=Lh fun W (hE:Ext wq W)=>step_any _ _ y (⟨x.name,KEY⟩:Step) ky (.slice kva kvn kvc) W (hry.ext hE) (hkv10.ext (hXq.trans hE))
                        have HCA:=Lh fun W (hE:Ext wq W)=>ahead_any _ _ y (⟨x.name,KEY⟩:Step) ky (.slice kva kvn kvc) W (hry.ext hE) (hkv10.ext (hXq.trans hE)) hyn hxn'
                        obtain⟨B1,hB1⟩:∃b,stepB y ⟨x.name,KEY⟩=b:=⟨_,rfl⟩
                        obtain⟨B2,hB2⟩:∃b,aheadB y ⟨x.name,KEY⟩=b:=⟨_,rfl⟩
                        rw[hB1]at HCE HC2
                        rw[hB2]at HCA HC2
                        clear hy hB1 hB2 hry hyn
                        go_wp2_with fail
                        refine rg_begin (S:=Sx wq) kB (Sx.begin _) ?_
                        have hSe:Sx wq (World.drew wq):=(Sx.begin _)
                        refine gT 0 119 (.slice (some ⟨gs,os,none⟩) steps.length scap) hSe ?_
                        simp only[Act.put,sA,sZ,sS]
                        refine gT 1 120 (.int .i64 q) hSe ?_
                        simp only[Act.put,sA,sZ,sS]
                        refine gT 2 121 (.pointer (some ⟨gs,os+q*2,none⟩)) hSe ?_
                        simp only[Act.put,sA,sZ,sS]
                        refine gT 3 122 (.agg #[.string (bs y.n),ky]) hSe ?_ (hv:=fun w' hs=>by(have h0:=hs.cell lgse ey0;have h1:=hs.cell lgse ey1;go_simp))
                        simp only[Act.put,sA,sZ,sS]
                        refine gT 4 123 (.agg #[.string (bs x.name),.slice kva kvn kvc]) hSe ?_ (hv:=fun w' hs=>by(have h0:=hs.cell l23e et0;have h1:=hs.cell l23e et1;go_simp))
                        simp only[Act.put,sA,sZ,sS]
                        refine rg_call 5 (some 124) 68 #[.agg #[.string (bs y.n),ky],.agg #[.string (bs x.name),.slice kva kvn kvc]] rfl rfl kB (by rfl) (fun w'=>by first | rfl | go_simp) (R:=fun v w'=>v= .bool B1∧Ext (World.drew wq) w') ?_ ?_
                        · refine(HCE.out (World.drew wq) hSe).mono ?_
                          rintro e w' ⟨rfl,h⟩
                          exact⟨_,rfl,rfl,h⟩
                        rintro _ wre1 ⟨rfl,hBre1⟩
                        have hSe1:=hSe.ext hBre1
                        refine⟨hSe1,?_⟩
                        simp only[Act.put,sA,sZ,sS]
                        refine rg_done kB ?_
                        cases B1 with
                        | true=>
                          have HN:Hid ((zeroN,(23:Int),at')=R):=Lh (by
                            have h1:=HI.out.2
                            rw[HC2.out.2,Bool.true_or]at h1
                            have h2:=HS9.out
                            rw[if_pos h1.symm]at h2
                            exact h2)
                          have hXZ:=hX10.trans (hXq.trans (show Ext wq wre1 from hSe1))
                          clear HC2 HI HS9
                          have HRB:=Lh (HH.out.2.1.ext hXZ)
                          have HXX:=Lh (hX.trans hXZ)
                          have rc0:=HRB.out.c0
                          have rf0:=HRB.out.f0
                          have rc1:=HRB.out.c1
                          have rf1:=HRB.out.f1
                          have rc2:=HRB.out.c2
                          have rf2:=HRB.out.f2
                          have rc3:=HRB.out.c3
                          have rf3:=HRB.out.f3
                          have rc4:=HRB.out.c4
                          have rf4:=HRB.out.f4
                          go_wp2_with fail
                          (try simp only[Exit.inBlock,Exit.then])
                          refine bodyPost_ret (res_node3 rfl _ _ _ ⟨w.heap.size+1,0,none⟩ ?_ (load_node (B5.put (n:=zeroN) (xa:= .slice none 0 0) (xk:= .slice none 0 0) HRB.out))) rfl ?_
                          · rfl
                          rw[←HN.out]
                          exact⟨⟨_,_,rfl,.nil 2,.nil 5⟩,HXX.out.st5 kA zeroN _ _⟩
                        | false=>
                          have fy0:=hSe1.keep lgse ey0
                          have fy1:=hSe1.keep lgse ey1
                          have ft0:=hSe1.keep l23e et0
                          have ft1:=hSe1.keep l23e et1
                          have lgsf:gs< wre1.heap.size:=Nat.lt_of_lt_of_le lgse (show Ext wq wre1 from hSe1).size
                          have l23f:wrk1.heap.size< wre1.heap.size:=Nat.lt_of_lt_of_le l23e (show Ext wq wre1 from hSe1).size
                          clear ey0 ey1 et0 et1
                          go_wp2_with fail
                          refine rg_begin (S:=Sx wre1) kB (Sx.begin _) ?_
                          have hSf:Sx wre1 (World.drew wre1):=(Sx.begin _)
                          refine gT 0 127 (.slice (some ⟨gs,os,none⟩) steps.length scap) hSf ?_
                          simp only[Act.put,sA,sZ,sS]
                          refine gT 1 128 (.int .i64 q) hSf ?_
                          simp only[Act.put,sA,sZ,sS]
                          refine gT 2 129 (.pointer (some ⟨gs,os+q*2,none⟩)) hSf ?_
                          simp only[Act.put,sA,sZ,sS]
                          refine gT 3 130 (.agg #[.string (bs y.n),ky]) hSf ?_ (hv:=fun w' hs=>by(have h0:=hs.cell lgsf fy0;have h1:=hs.cell lgsf fy1;go_simp))
                          simp only[Act.put,sA,sZ,sS]
                          refine gT 4 131 (.agg #[.string (bs x.name),.slice kva kvn kvc]) hSf ?_ (hv:=fun w' hs=>by(have h0:=hs.cell l23f ft0;have h1:=hs.cell l23f ft1;go_simp))
                          simp only[Act.put,sA,sZ,sS]
                          refine rg_call 5 (some 132) 67 #[.agg #[.string (bs y.n),ky],.agg #[.string (bs x.name),.slice kva kvn kvc]] rfl rfl kB (by rfl) (fun w'=>by first | rfl | go_simp) (R:=fun v w'=>v= .bool B2∧Ext (World.drew wre1) w') ?_ ?_
                          · refine(HCA.out (World.drew wre1) ((show Ext wq wre1 from hSe1).trans hSf)).mono ?_
                            rintro e w' ⟨rfl,h⟩
                            exact⟨_,rfl,rfl,h⟩
                          rintro _ wrf1 ⟨rfl,hBrf1⟩
                          have hSf1:=hSf.ext hBrf1
                          refine⟨hSf1,?_⟩
                          simp only[Act.put,sA,sZ,sS]
                          refine rg_done kB ?_
                          have hXZ:=hXq.trans ((show Ext wq wre1 from hSe1).trans (show Ext wre1 wrf1 from hSf1))
                          cases B2 with
                          | true=>
                            have HN:Hid ((pl+1)+(steps.drop (q+1)).countP (fun s=>aheadB s ⟨x.name,KEY⟩)=PL∧(steps.drop (q+1)).any (fun s=>stepB s ⟨x.name,KEY⟩)=AN):=Lh (by
                              have h1:=HI.out;have h2:=HC2.out
                              rw[h2.1,h2.2]at h1
                              exact⟨by rw[←h1.1,if_pos rfl];omega,by rw[←h1.2,Bool.false_or]⟩)
                            clear HC2 HI fy0 fy1 ft0 ft1
                            go_wp2_with fail
                            go_roundw
                            case rel=>exact⟨pl+1,q+1,by go_num,by go_num,by omega,by omega,hXZ,HN⟩
                            case measure=>exact mZ
                          | false=>
                            have HN:Hid (pl+(steps.drop (q+1)).countP (fun s=>aheadB s ⟨x.name,KEY⟩)=PL∧(steps.drop (q+1)).any (fun s=>stepB s ⟨x.name,KEY⟩)=AN):=Lh (by
                              have h1:=HI.out;have h2:=HC2.out
                              rw[h2.1,h2.2]at h1
                              exact⟨by rw[←h1.1,if_neg kI];omega,by rw[←h1.2,Bool.false_or]⟩)
                            clear HC2 HI fy0 fy1 ft0 ft1
                            go_wp2_with fail
                            go_roundw
                            case rel=>exact⟨pl,q+1,rfl,by go_num,by omega,by omega,hXZ,HN⟩
                            case measure=>exact mZ
                      · have hqI:¬(q:Int)< (steps.length:Int):=by omega
                        have hfin:pl=PL∧AN=false:=by
                          have h1:=HI.out
                          rw[List.drop_of_length_le kA]at h1
                          exact⟨by simpa using h1.1,by simpa using h1.2.symm⟩
                        obtain⟨hp1,rfl⟩:=hfin
                        subst hp1
                        have HT:=HS9.out
                        rw[if_neg kI]at HT
                        have HT9:=Lh HT
                        clear HT HS9 HI
                        go_wp2_with fail
                        obtain⟨w11,hw11⟩:∃w11,w11=wq:=⟨_,rfl⟩
                        subst hw11
                        have hX11:=hX10.trans hXq
                        have hkv11:=hkv10.ext hXq
                        have hlow:w2.heap.size≤wo.heap.size:=HH.out.2.2.2.1.1
                        have hlow8:=hX8.size
                        have hlow6:=hX6.size
                        have hlow11:=hX11.size
                        obtain⟨us,hus,hul,hTk,hDr,_⟩:=rep_src (hdv10.ext hXq) unStep szStep
                        obtain⟨vt,hvt,evt⟩:=hTk pl hPLle
                        obtain⟨vd,hvd,evd⟩:=hDr pl hPLle
                        have h1u:=hus.one (flat_one one_step steps)
                        clear hTk hDr
                        refine region_merge (fun ac ac' w'=>∃(gas:Nat) (gbs:Nat) (v2s:Value) (v3s:Value) (v4s:Value),ac'=(((((((((((((ac.put (some 135) (.slice (some ⟨gas,0,none⟩) 0 0)).put (some 136) (.slice sa steps.length scap)).put (some 137) (.int .i64 pl)).put (some 138) (vt)).put (some 139) (v2s)).put (some 140) (.agg #[.string (bs x.name),.slice kva kvn kvc])).put (some 141) (.slice (some ⟨gbs,0,none⟩) 1 1)).put (some 142) (v3s)).put (some 143) (.slice sa steps.length scap)).put (some 144) (.int .i64 pl)).put (some 145) (vd)).put (some 146) (v4s)).put (some 12) (v4s))∧Sx w11 w'∧World.ownsRow w' w11.heap.size 101 2 v4s (pl+1+(steps.length - pl)) ((us.take (pl*2))++([.string (bs x.name),.slice kva kvn kvc]:List Value)++(us.drop (pl*2)))) ?_ ?_
                        · refine rg_begin (S:=Sx w11) kB (Sx.begin _) ?_
                          have hSs:Sx w11 (World.drew w11):=(Sx.begin _)
                          refine gT 1 136 (.slice sa steps.length scap) hSs ?_
                          simp only[Act.put,sA,sZ,sS]
                          refine gT 2 137 (.int .i64 pl) hSs ?_
                          simp only[Act.put,sA,sZ,sS]
                          refine gT 3 138 (vt) hSs ?_ (hv:=fun w' hs=>by exact exec_slice rfl (evt w'))
                          simp only[Act.put,sA,sZ,sS]
                          refine gT 5 140 (.agg #[.string (bs x.name),.slice kva kvn kvc]) hSs ?_ (hv:=fun w' hs=>by(have h0:=hs.cell l23e et0;have h1:=hs.cell l23e et1;go_simp))
                          simp only[Act.put,sA,sZ,sS]
                          refine gT 8 143 (.slice sa steps.length scap) hSs ?_
                          simp only[Act.put,sA,sZ,sS]
                          refine gT 9 144 (.int .i64 pl) hSs ?_
                          simp only[Act.put,sA,sZ,sS]
                          refine gT 10 145 (vd) hSs ?_ (hv:=fun w' hs=>by exact exec_slice rfl (evd w'))
                          simp only[Act.put,sA,sZ,sS]
                          refine rg_two 0 6 kB ?_ ?_
                          · refine tk_new 0 (some 135) (.cells #[] 101) (fun n=> .slice (some ⟨n,0,none⟩) 0 0) rfl rfl (by rfl) kF ?_
                            intro gas xas egas hxas hzxas hgas
                            have hSas:Sx w11 xas:=hSs.ext hxas
                            refine⟨hSas,?_⟩
                            simp only[Act.put,sA,sZ,sS]
                            have ownAs:xas.ownsRow w11.heap.size 101 2 (.slice (some ⟨gas,0,none⟩) 0 0) 0 []:=own_empty' (by rw[egas];exact(show Ext w11 _ from hSs).size) hgas
                            refine rg_two 4 6 kB ?_ ?_
                            · refine tk_src 4 (some 139) rfl rfl (by rfl) (.tmp 135) (.tmp 138) 134 rfl w11.heap.size 101 j0 (.agg #[.string ⟨#[]⟩,.slice none 0 0]) 2 40 Tryz.underlying134 ji jz0 jz1 jz2 rfl kD _ 0 [] rfl ownAs vt pl (us.take (pl*2)) rfl (hvt.ext hSas) (fun u hu=>h1u u (List.mem_of_mem_take hu)) kC kA (show Ext w11 _ from hSas).size ?_
                              intro v2s xcs hr2s hg2s ha2s
                              have hScs:Sx w11 xcs:=sx_grown hSas ownAs hg2s
                              refine⟨hScs,?_⟩
                              simp only[Act.put,sA,sZ,sS]
                              have ownBs:xcs.ownsRow w11.heap.size 101 2 v2s pl (us.take (pl*2)):=by rw[Nat.zero_add,List.nil_append]at hr2s;exact hr2s
                              refine rg_one 6 kB ?_
                              refine tk_new 6 (some 141) (.cells #[.string (bs x.name),.slice kva kvn kvc] 101) (fun n=> .slice (some ⟨n,0,none⟩) 1 1) rfl rfl (by rfl) kF ?_
                              intro gbs xbs egbs hxbs hzxbs hCs
                              have hSbs:Sx w11 xbs:=hScs.ext hxbs
                              refine⟨hSbs,?_⟩
                              simp only[Act.put,sA,sZ,sS]
                              have lCs:gbs< xbs.heap.size:=blk_lt hCs
                              have own':=rows_ext ownBs hxbs
                              clear ownBs
                              have ownBs:=own'
                              clear own'
                              refine rg_one 7 kB ?_
                              refine tk_src 7 (some 142) rfl rfl (by rfl) (.tmp 139) (.tmp 141) 134 rfl w11.heap.size 101 j0 (.agg #[.string ⟨#[]⟩,.slice none 0 0]) 2 40 Tryz.underlying134 ji jz0 jz1 jz2 rfl kD _ pl (us.take (pl*2)) rfl ownBs (.slice (some ⟨gbs,0,none⟩) 1 1) 1 [.string (bs x.name),.slice kva kvn kvc] rfl (Src.block hCs rfl) kG kC kA (show Ext w11 _ from hSbs).size ?_
                              intro v3s xds hr3s hg3s ha3s
                              have hSds:Sx w11 xds:=sx_grown hSbs ownBs hg3s
                              refine⟨hSds,?_⟩
                              simp only[Act.put,sA,sZ,sS]
                              refine rg_one 11 kB ?_
                              refine tk_src 11 (some 146) rfl rfl (by rfl) (.tmp 142) (.tmp 145) 134 rfl w11.heap.size 101 j0 (.agg #[.string ⟨#[]⟩,.slice none 0 0]) 2 40 Tryz.underlying134 ji jz0 jz1 jz2 rfl kD _ (pl+1) ((us.take (pl*2))++([.string (bs x.name),.slice kva kvn kvc]:List Value)) rfl hr3s vd (steps.length - pl) (us.drop (pl*2)) rfl (hvd.ext hSds) (fun u hu=>h1u u (List.mem_of_mem_drop hu)) kC kA (show Ext w11 _ from hSds).size ?_
                              intro v4s xes hr4s hg4s ha4s
                              have hSes:Sx w11 xes:=sx_grown hSds hr3s hg4s
                              refine⟨hSes,?_⟩
                              simp only[Act.put,sA,sZ,sS]
                              refine gT 12 12 (v4s) hSes ?_
                              simp only[Act.put,sA,sZ,sS]
                              refine rg_done kB ?_
                              exact⟨gas,gbs,v2s,v3s,v4s,kH,hSes,hr4s⟩
                            · refine tk_new 6 (some 141) (.cells #[.string (bs x.name),.slice kva kvn kvc] 101) (fun n=> .slice (some ⟨n,0,none⟩) 1 1) rfl rfl (by rfl) kF ?_
                              intro gbs xbs egbs hxbs hzxbs hCs
                              have hSbs:Sx w11 xbs:=hSas.ext hxbs
                              refine⟨hSbs,?_⟩
                              simp only[Act.put,sA,sZ,sS]
                              have lCs:gbs< xbs.heap.size:=blk_lt hCs
                              have own':=rows_ext ownAs hxbs
                              clear ownAs
                              have ownAs:=own'
                              clear own'
                              have neCs:gbs≠gas:=by have:=blk_lt hgas;omega
                              refine rg_one 4 kB ?_
                              refine tk_src 4 (some 139) rfl rfl (by rfl) (.tmp 135) (.tmp 138) 134 rfl w11.heap.size 101 j0 (.agg #[.string ⟨#[]⟩,.slice none 0 0]) 2 40 Tryz.underlying134 ji jz0 jz1 jz2 rfl kD _ 0 [] rfl ownAs vt pl (us.take (pl*2)) rfl (hvt.ext hSbs) (fun u hu=>h1u u (List.mem_of_mem_take hu)) kC kA (show Ext w11 _ from hSbs).size ?_
                              intro v2s xcs hr2s hg2s ha2s
                              have hScs:Sx w11 xcs:=sx_grown hSbs ownAs hg2s
                              refine⟨hScs,?_⟩
                              simp only[Act.put,sA,sZ,sS]
                              have ownBs:xcs.ownsRow w11.heap.size 101 2 v2s pl (us.take (pl*2)):=by rw[Nat.zero_add,List.nil_append]at hr2s;exact hr2s
                              have hC':=(hg2s.block gbs (blk_lt hCs) (by intro e;exact neCs (Option.some.inj e))).trans hCs
                              clear hCs
                              have hCs:=hC'
                              clear hC'
                              refine rg_one 7 kB ?_
                              refine tk_src 7 (some 142) rfl rfl (by rfl) (.tmp 139) (.tmp 141) 134 rfl w11.heap.size 101 j0 (.agg #[.string ⟨#[]⟩,.slice none 0 0]) 2 40 Tryz.underlying134 ji jz0 jz1 jz2 rfl kD _ pl (us.take (pl*2)) rfl ownBs (.slice (some ⟨gbs,0,none⟩) 1 1) 1 [.string (bs x.name),.slice kva kvn kvc] rfl (Src.block hCs rfl) kG kC kA (show Ext w11 _ from hScs).size ?_
                              intro v3s xds hr3s hg3s ha3s
                              have hSds:Sx w11 xds:=sx_grown hScs ownBs hg3s
                              refine⟨hSds,?_⟩
                              simp only[Act.put,sA,sZ,sS]
                              refine rg_one 11 kB ?_
                              refine tk_src 11 (some 146) rfl rfl (by rfl) (.tmp 142) (.tmp 145) 134 rfl w11.heap.size 101 j0 (.agg #[.string ⟨#[]⟩,.slice none 0 0]) 2 40 Tryz.underlying134 ji jz0 jz1 jz2 rfl kD _ (pl+1) ((us.take (pl*2))++([.string (bs x.name),.slice kva kvn kvc]:List Value)) rfl hr3s vd (steps.length - pl) (us.drop (pl*2)) rfl (hvd.ext hSds) (fun u hu=>h1u u (List.mem_of_mem_drop hu)) kC kA (show Ext w11 _ from hSds).size ?_
                              intro v4s xes hr4s hg4s ha4s
                              have hSes:Sx w11 xes:=sx_grown hSds hr3s hg4s
                              refine⟨hSes,?_⟩
                              simp only[Act.put,sA,sZ,sS]
                              refine gT 12 12 (v4s) hSes ?_
                              simp only[Act.put,sA,sZ,sS]
                              refine rg_done kB ?_
                              exact⟨gas,gbs,v2s,v3s,v4s,kH,hSes,hr4s⟩
                          · refine tk_new 6 (some 141) (.cells #[.string (bs x.name),.slice kva kvn kvc] 101) (fun n=> .slice (some ⟨n,0,none⟩) 1 1) rfl rfl (by rfl) kF ?_
                            intro gbs xbs egbs hxbs hzxbs hCs
                            have hSbs:Sx w11 xbs:=hSs.ext hxbs
                            refine⟨hSbs,?_⟩
                            simp only[Act.put,sA,sZ,sS]
                            have lCs:gbs< xbs.heap.size:=blk_lt hCs
                            refine rg_one 0 kB ?_
                            refine tk_new 0 (some 135) (.cells #[] 101) (fun n=> .slice (some ⟨n,0,none⟩) 0 0) rfl rfl (by rfl) kF ?_
                            intro gas xas egas hxas hzxas hgas
                            have hSas:Sx w11 xas:=hSbs.ext hxas
                            refine⟨hSas,?_⟩
                            simp only[Act.put,sA,sZ,sS]
                            have ownAs:xas.ownsRow w11.heap.size 101 2 (.slice (some ⟨gas,0,none⟩) 0 0) 0 []:=own_empty' (by rw[egas];exact(show Ext w11 _ from hSbs).size) hgas
                            have hC':=(Below.block hxas gbs lCs).trans hCs
                            clear hCs
                            have hCs:=hC'
                            clear hC'
                            have neCs:gbs≠gas:=by omega
                            refine rg_one 4 kB ?_
                            refine tk_src 4 (some 139) rfl rfl (by rfl) (.tmp 135) (.tmp 138) 134 rfl w11.heap.size 101 j0 (.agg #[.string ⟨#[]⟩,.slice none 0 0]) 2 40 Tryz.underlying134 ji jz0 jz1 jz2 rfl kD _ 0 [] rfl ownAs vt pl (us.take (pl*2)) rfl (hvt.ext hSas) (fun u hu=>h1u u (List.mem_of_mem_take hu)) kC kA (show Ext w11 _ from hSas).size ?_
                            intro v2s xcs hr2s hg2s ha2s
                            have hScs:Sx w11 xcs:=sx_grown hSas ownAs hg2s
                            refine⟨hScs,?_⟩
                            simp only[Act.put,sA,sZ,sS]
                            have ownBs:xcs.ownsRow w11.heap.size 101 2 v2s pl (us.take (pl*2)):=by rw[Nat.zero_add,List.nil_append]at hr2s;exact hr2s
                            have hC':=(hg2s.block gbs (blk_lt hCs) (by intro e;exact neCs (Option.some.inj e))).trans hCs
                            clear hCs
                            have hCs:=hC'
                            clear hC'
                            refine rg_one 7 kB ?_
                            refine tk_src 7 (some 142) rfl rfl (by rfl) (.tmp 139) (.tmp 141) 134 rfl w11.heap.size 101 j0 (.agg #[.string ⟨#[]⟩,.slice none 0 0]) 2 40 Tryz.underlying134 ji jz0 jz1 jz2 rfl kD _ pl (us.take (pl*2)) rfl ownBs (.slice (some ⟨gbs,0,none⟩) 1 1) 1 [.string (bs x.name),.slice kva kvn kvc] rfl (Src.block hCs rfl) kG kC kA (show Ext w11 _ from hScs).size ?_
                            intro v3s xds hr3s hg3s ha3s
                            have hSds:Sx w11 xds:=sx_grown hScs ownBs hg3s
                            refine⟨hSds,?_⟩
                            simp only[Act.put,sA,sZ,sS]
                            refine rg_one 11 kB ?_
                            refine tk_src 11 (some 146) rfl rfl (by rfl) (.tmp 142) (.tmp 145) 134 rfl w11.heap.size 101 j0 (.agg #[.string ⟨#[]⟩,.slice none 0 0]) 2 40 Tryz.underlying134 ji jz0 jz1 jz2 rfl kD _ (pl+1) ((us.take (pl*2))++([.string (bs x.name),.slice kva kvn kvc]:List Value)) rfl hr3s vd (steps.length - pl) (us.drop (pl*2)) rfl (hvd.ext hSds) (fun u hu=>h1u u (List.mem_of_mem_drop hu)) kC kA (show Ext w11 _ from hSds).size ?_
                            intro v4s xes hr4s hg4s ha4s
                            have hSes:Sx w11 xes:=sx_grown hSds hr3s hg4s
                            refine⟨hSes,?_⟩
                            simp only[Act.put,sA,sZ,sS]
                            refine gT 12 12 (v4s) hSes ?_
                            simp only[Act.put,sA,sZ,sS]
                            refine rg_done kB ?_
                            exact⟨gas,gbs,v2s,v3s,v4s,kH,hSes,hr4s⟩
                        rintro _ w12 ⟨gas,gbs,v2s,v3s,v4s,rfl,hS12,hr12⟩
                        simp only[Act.put,sA,sZ,sS]
                        have hS12':Ext w11 w12:=hS12
                        have hdv12:Rep w12 (fun b=>w2.heap.size≤b) v4s (stepsD (insAt steps pl ⟨x.name,KEY⟩)):=(Rep.ins z_step hus (Reps.cons (Rep.string _ _ _ (by rw[bs_size];exact hxn')) (Reps.cons (hkv11.ok fun b hb=>by omega) (Reps.nil _ _)):Reps w11 (fun b=>w2.heap.size≤b) [.string (bs x.name),.slice kva kvn kvc] (stepC ⟨x.name,KEY⟩)) hS12' hr12).ok fun b hb=>by omega
                        have hn4:∃n,(insAt steps pl (⟨x.name,KEY⟩:Step)).length=n:=⟨_,rfl⟩
                        obtain⟨s4a,s4c,rfl,_,_⟩:=hdv12.count z_step kA
                        have hX12:=hX11.trans hS12'
                        have hlow12:=hX12.size
                        have hov12:=HH.out.2.2.2.2.2.1.ext hX12
                        have hplo:pl≤outk.length:=by have:=HH.out.2.2.2.2.2.2.1;omega
                        have hoklen:outk.length≤i:=by have:=HH.out.2.2.2.2.2.2.1;omega
                        obtain⟨us2,hus2,hul2,hTk2,hDr2,_⟩:=rep_src hov12 unNode szNode
                        obtain⟨vt2,hvt2,evt2⟩:=hTk2 pl hplo
                        obtain⟨vd2,hvd2,evd2⟩:=hDr2 pl hplo
                        have h1u2:=hus2.one (flat_one one_node outk)
                        have hbo12:=HH.out.2.2.1.ext hX12
                        have g4c:=hbo12.c4
                        have g4f:=hbo12.f4
                        have lg12:=hbo12.lt
                        have hX812:Ext w8 w12:=(show Ext w8 wrk1 from hSk1).trans (hE10.trans (hXq.trans hS12'))
                        have hb18:=HYS.out.2.2.1.ext hX812
                        have hya12:=HYS.out.1.ext hX812
                        have hyk12:=HYS.out.2.1.ext hX812
                        have n18c0:=hb18.c0
                        have n18f0:=hb18.f0
                        have n18c1:=hb18.c1
                        have n18f1:=hb18.f1
                        have n18c2:=hb18.c2
                        have n18f2:=hb18.f2
                        have n18c3:=hb18.c3
                        have n18f3:=hb18.f3
                        have n18c4:=hb18.c4
                        have n18f4:=hb18.f4
                        have n18l:=hb18.lt
                        have hkname:kd.name.length≤1048576∧kd.text.length≤1048576:=by
                          have:=HG.out.2.2
                          cases kd;rw[cntN]at hkc;simp only[Node.name,Node.text];omega
                        clear hTk2 hDr2 hus hul hvt evt hvd evd h1u hr12 hkv11 et0 et1
                        go_wp2_with fail
                        refine region_merge (fun ac ac' w'=>∃(gan:Nat) (gbn:Nat) (v2n:Value) (v3n:Value) (v4n:Value) (xw:World),ac'=(((((((((((((((ac.put (some 147) (.slice (some ⟨gan,0,none⟩) 0 0)).put (some 148) (.pointer (some ⟨g11,4,none⟩))).put (some 149) (.slice oa outk.length ocap)).put (some 150) (.int .i64 pl)).put (some 151) (vt2)).put (some 152) (v2n)).put (some 153) (.agg #[.int .i64 kd.kind,.string (bs kd.name),.string (bs kd.text),.slice yaa yan yac,.slice yka ykn ykc])).put (some 154) (.slice (some ⟨gbn,0,none⟩) 1 1)).put (some 155) (v3n)).put (some 156) (.pointer (some ⟨g11,4,none⟩))).put (some 157) (.slice oa outk.length ocap)).put (some 158) (.int .i64 pl)).put (some 159) (vd2)).put (some 160) (v4n)).put (some 161) (.pointer (some ⟨g11,4,none⟩)))∧w'=xw.setCell ⟨g11,4,none⟩ v4n∧Sx w12 xw∧World.ownsRow xw w12.heap.size 66 5 v4n (pl+1+(outk.length - pl)) ((us2.take (pl*5))++([.int .i64 kd.kind,.string (bs kd.name),.string (bs kd.text),.slice yaa yan yac,.slice yka ykn ykc]:List Value)++(us2.drop (pl*5)))) ?_ ?_
                        · refine rg_aside (S := Sx w12) 15 ⟨none, .store 23 (.tmp 161) (.tmp 160), 0, "ref.go:155", #[⟨14, .data⟩, ⟨13, .data⟩, ⟨13, .chain⟩, ⟨0, .phase⟩, ⟨1, .phase⟩, ⟨2, .phase⟩, ⟨3, .phase⟩, ⟨4, .phase⟩, ⟨5, .phase⟩, ⟨6, .phase⟩, ⟨7, .phase⟩, ⟨8, .phase⟩, ⟨9, .phase⟩, ⟨10, .phase⟩, ⟨11, .phase⟩, ⟨12, .phase⟩, ⟨13, .phase⟩], none⟩ kB kD rfl rfl kB kB (Sx.begin _) ?_
                          have hSn:Sx w12 (World.drew w12):=(Sx.begin _)
                          simp only[List.setIfInBounds_toArray,List.set_cons_zero,List.set_cons_succ]
                          refine gT 1 148 (.pointer (some ⟨g11,4,none⟩)) hSn ?_
                          simp only[Act.put,sA,sZ,sS]
                          refine gT 2 149 (.slice oa outk.length ocap) hSn ?_ (hv:=fun w' hs=>by(have h0:=hs.cell lg12 g4c;go_simp))
                          simp only[Act.put,sA,sZ,sS]
                          refine gT 3 150 (.int .i64 pl) hSn ?_
                          simp only[Act.put,sA,sZ,sS]
                          refine gT 4 151 (vt2) hSn ?_ (hv:=fun w' hs=>by exact exec_slice rfl (evt2 w'))
                          simp only[Act.put,sA,sZ,sS]
                          refine gT 6 153 (.agg #[.int .i64 kd.kind,.string (bs kd.name),.string (bs kd.text),.slice yaa yan yac,.slice yka ykn ykc]) hSn ?_ (hv:=fun w' hs=>by(have h0:=hs.cell n18l n18c0;have h1:=hs.cell n18l n18c1;have h2:=hs.cell n18l n18c2;have h3:=hs.cell n18l n18c3;have h4:=hs.cell n18l n18c4;go_simp))
                          simp only[Act.put,sA,sZ,sS]
                          refine gT 9 156 (.pointer (some ⟨g11,4,none⟩)) hSn ?_
                          simp only[Act.put,sA,sZ,sS]
                          refine gT 10 157 (.slice oa outk.length ocap) hSn ?_ (hv:=fun w' hs=>by(have h0:=hs.cell lg12 g4c;go_simp))
                          simp only[Act.put,sA,sZ,sS]
                          refine gT 11 158 (.int .i64 pl) hSn ?_
                          simp only[Act.put,sA,sZ,sS]
                          refine gT 12 159 (vd2) hSn ?_ (hv:=fun w' hs=>by exact exec_slice rfl (evd2 w'))
                          simp only[Act.put,sA,sZ,sS]
                          refine rg_two 0 7 kB ?_ ?_
                          · refine tk_new 0 (some 147) (.cells #[] 66) (fun n=> .slice (some ⟨n,0,none⟩) 0 0) rfl rfl (by rfl) kF ?_
                            intro gan xan egan hxan hzxan hgan
                            have hSan:Sx w12 xan:=hSn.ext hxan
                            refine⟨hSan,?_⟩
                            simp only[Act.put,sA,sZ,sS]
                            have ownAn:xan.ownsRow w12.heap.size 66 5 (.slice (some ⟨gan,0,none⟩) 0 0) 0 []:=own_empty' (by rw[egan];exact(show Ext w12 _ from hSn).size) hgan
                            refine rg_two 5 7 kB ?_ ?_
                            · refine tk_src 5 (some 152) rfl rfl (by rfl) (.tmp 147) (.tmp 151) 23 rfl w12.heap.size 66 k0 (.agg #[.int .i64 0,.string ⟨#[]⟩,.string ⟨#[]⟩,.slice none 0 0,.slice none 0 0]) 5 88 Tryz.underlying23 ki kz0 kz1 kz2 rfl kD _ 0 [] rfl ownAn vt2 pl (us2.take (pl*5)) rfl (hvt2.ext hSan) (fun u hu=>h1u2 u (List.mem_of_mem_take hu)) kC kA (show Ext w12 _ from hSan).size ?_
                              intro v2n xcn hr2n hg2n ha2n
                              have hScn:Sx w12 xcn:=sx_grown hSan ownAn hg2n
                              refine⟨hScn,?_⟩
                              simp only[Act.put,sA,sZ,sS]
                              have ownBn:xcn.ownsRow w12.heap.size 66 5 v2n pl (us2.take (pl*5)):=by rw[Nat.zero_add,List.nil_append]at hr2n;exact hr2n
                              refine rg_one 7 kB ?_
                              refine tk_new 7 (some 154) (.cells #[.int .i64 kd.kind,.string (bs kd.name),.string (bs kd.text),.slice yaa yan yac,.slice yka ykn ykc] 66) (fun n=> .slice (some ⟨n,0,none⟩) 1 1) rfl rfl (by rfl) kF ?_
                              intro gbn xbn egbn hxbn hzxbn hCn
                              have hSbn:Sx w12 xbn:=hScn.ext hxbn
                              refine⟨hSbn,?_⟩
                              simp only[Act.put,sA,sZ,sS]
                              have lCn:gbn< xbn.heap.size:=blk_lt hCn
                              have own':=rows_ext ownBn hxbn
                              clear ownBn
                              have ownBn:=own'
                              clear own'
                              refine rg_one 8 kB ?_
                              refine tk_src 8 (some 155) rfl rfl (by rfl) (.tmp 152) (.tmp 154) 23 rfl w12.heap.size 66 k0 (.agg #[.int .i64 0,.string ⟨#[]⟩,.string ⟨#[]⟩,.slice none 0 0,.slice none 0 0]) 5 88 Tryz.underlying23 ki kz0 kz1 kz2 rfl kD _ pl (us2.take (pl*5)) rfl ownBn (.slice (some ⟨gbn,0,none⟩) 1 1) 1 [.int .i64 kd.kind,.string (bs kd.name),.string (bs kd.text),.slice yaa yan yac,.slice yka ykn ykc] rfl (Src.block hCn rfl) kL kC kA (show Ext w12 _ from hSbn).size ?_
                              intro v3n xdn hr3n hg3n ha3n
                              have hSdn:Sx w12 xdn:=sx_grown hSbn ownBn hg3n
                              refine⟨hSdn,?_⟩
                              simp only[Act.put,sA,sZ,sS]
                              refine rg_one 13 kB ?_
                              refine tk_src 13 (some 160) rfl rfl (by rfl) (.tmp 155) (.tmp 159) 23 rfl w12.heap.size 66 k0 (.agg #[.int .i64 0,.string ⟨#[]⟩,.string ⟨#[]⟩,.slice none 0 0,.slice none 0 0]) 5 88 Tryz.underlying23 ki kz0 kz1 kz2 rfl kD _ (pl+1) ((us2.take (pl*5))++([.int .i64 kd.kind,.string (bs kd.name),.string (bs kd.text),.slice yaa yan yac,.slice yka ykn ykc]:List Value)) rfl hr3n vd2 (outk.length - pl) (us2.drop (pl*5)) rfl (hvd2.ext hSdn) (fun u hu=>h1u2 u (List.mem_of_mem_drop hu)) kC kA (show Ext w12 _ from hSdn).size ?_
                              intro v4n xen hr4n hg4n ha4n
                              have hSen:Sx w12 xen:=sx_grown hSdn hr3n hg4n
                              refine⟨hSen,?_⟩
                              simp only[Act.put,sA,sZ,sS]
                              refine gT 14 161 (.pointer (some ⟨g11,4,none⟩)) hSen ?_
                              simp only[Act.put,sA,sZ,sS]
                              refine rg_t 15 none (.bool true) rfl hSen (fun w' hs=>by rfl) ?_
                              simp only[Act.put,sA,sZ,sS]
                              refine rg_done kB ?_
                              obtain⟨v4o,v4c,rfl⟩:=own_form hr4n
                              have a4c:=hSen.cell lg12 g4c
                              have a4f:=(show Ext w12 _ from hSen).free lg12 g4f
                              refine qlast_normal ?_
                              refine tk_write 15 none (xen.setCell ⟨g11,4,none⟩ (.slice v4o (pl+1+(outk.length - pl)) v4c)) (by rfl) rfl (by rfl) (exec_store rfl (store_slice _ s1Node a4c a4f _ _ _)) ?_
                              exact⟨gan,gbn,v2n,v3n,(.slice v4o (pl+1+(outk.length - pl)) v4c),xen,kH,rfl,hSen,hr4n⟩
                            · refine tk_new 7 (some 154) (.cells #[.int .i64 kd.kind,.string (bs kd.name),.string (bs kd.text),.slice yaa yan yac,.slice yka ykn ykc] 66) (fun n=> .slice (some ⟨n,0,none⟩) 1 1) rfl rfl (by rfl) kF ?_
                              intro gbn xbn egbn hxbn hzxbn hCn
                              have hSbn:Sx w12 xbn:=hSan.ext hxbn
                              refine⟨hSbn,?_⟩
                              simp only[Act.put,sA,sZ,sS]
                              have lCn:gbn< xbn.heap.size:=blk_lt hCn
                              have own':=rows_ext ownAn hxbn
                              clear ownAn
                              have ownAn:=own'
                              clear own'
                              have neCn:gbn≠gan:=by have:=blk_lt hgan;omega
                              refine rg_one 5 kB ?_
                              refine tk_src 5 (some 152) rfl rfl (by rfl) (.tmp 147) (.tmp 151) 23 rfl w12.heap.size 66 k0 (.agg #[.int .i64 0,.string ⟨#[]⟩,.string ⟨#[]⟩,.slice none 0 0,.slice none 0 0]) 5 88 Tryz.underlying23 ki kz0 kz1 kz2 rfl kD _ 0 [] rfl ownAn vt2 pl (us2.take (pl*5)) rfl (hvt2.ext hSbn) (fun u hu=>h1u2 u (List.mem_of_mem_take hu)) kC kA (show Ext w12 _ from hSbn).size ?_
                              intro v2n xcn hr2n hg2n ha2n
                              have hScn:Sx w12 xcn:=sx_grown hSbn ownAn hg2n
                              refine⟨hScn,?_⟩
                              simp only[Act.put,sA,sZ,sS]
                              have ownBn:xcn.ownsRow w12.heap.size 66 5 v2n pl (us2.take (pl*5)):=by rw[Nat.zero_add,List.nil_append]at hr2n;exact hr2n
                              have hC':=(hg2n.block gbn (blk_lt hCn) (by intro e;exact neCn (Option.some.inj e))).trans hCn
                              clear hCn
                              have hCn:=hC'
                              clear hC'
                              refine rg_one 8 kB ?_
                              refine tk_src 8 (some 155) rfl rfl (by rfl) (.tmp 152) (.tmp 154) 23 rfl w12.heap.size 66 k0 (.agg #[.int .i64 0,.string ⟨#[]⟩,.string ⟨#[]⟩,.slice none 0 0,.slice none 0 0]) 5 88 Tryz.underlying23 ki kz0 kz1 kz2 rfl kD _ pl (us2.take (pl*5)) rfl ownBn (.slice (some ⟨gbn,0,none⟩) 1 1) 1 [.int .i64 kd.kind,.string (bs kd.name),.string (bs kd.text),.slice yaa yan yac,.slice yka ykn ykc] rfl (Src.block hCn rfl) kL kC kA (show Ext w12 _ from hScn).size ?_
                              intro v3n xdn hr3n hg3n ha3n
                              have hSdn:Sx w12 xdn:=sx_grown hScn ownBn hg3n
                              refine⟨hSdn,?_⟩
                              simp only[Act.put,sA,sZ,sS]
                              refine rg_one 13 kB ?_
                              refine tk_src 13 (some 160) rfl rfl (by rfl) (.tmp 155) (.tmp 159) 23 rfl w12.heap.size 66 k0 (.agg #[.int .i64 0,.string ⟨#[]⟩,.string ⟨#[]⟩,.slice none 0 0,.slice none 0 0]) 5 88 Tryz.underlying23 ki kz0 kz1 kz2 rfl kD _ (pl+1) ((us2.take (pl*5))++([.int .i64 kd.kind,.string (bs kd.name),.string (bs kd.text),.slice yaa yan yac,.slice yka ykn ykc]:List Value)) rfl hr3n vd2 (outk.length - pl) (us2.drop (pl*5)) rfl (hvd2.ext hSdn) (fun u hu=>h1u2 u (List.mem_of_mem_drop hu)) kC kA (show Ext w12 _ from hSdn).size ?_
                              intro v4n xen hr4n hg4n ha4n
                              have hSen:Sx w12 xen:=sx_grown hSdn hr3n hg4n
                              refine⟨hSen,?_⟩
                              simp only[Act.put,sA,sZ,sS]
                              refine gT 14 161 (.pointer (some ⟨g11,4,none⟩)) hSen ?_
                              simp only[Act.put,sA,sZ,sS]
                              refine rg_t 15 none (.bool true) rfl hSen (fun w' hs=>by rfl) ?_
                              simp only[Act.put,sA,sZ,sS]
                              refine rg_done kB ?_
                              obtain⟨v4o,v4c,rfl⟩:=own_form hr4n
                              have a4c:=hSen.cell lg12 g4c
                              have a4f:=(show Ext w12 _ from hSen).free lg12 g4f
                              refine qlast_normal ?_
                              refine tk_write 15 none (xen.setCell ⟨g11,4,none⟩ (.slice v4o (pl+1+(outk.length - pl)) v4c)) (by rfl) rfl (by rfl) (exec_store rfl (store_slice _ s1Node a4c a4f _ _ _)) ?_
                              exact⟨gan,gbn,v2n,v3n,(.slice v4o (pl+1+(outk.length - pl)) v4c),xen,kH,rfl,hSen,hr4n⟩
                          · refine tk_new 7 (some 154) (.cells #[.int .i64 kd.kind,.string (bs kd.name),.string (bs kd.text),.slice yaa yan yac,.slice yka ykn ykc] 66) (fun n=> .slice (some ⟨n,0,none⟩) 1 1) rfl rfl (by rfl) kF ?_
                            intro gbn xbn egbn hxbn hzxbn hCn
                            have hSbn:Sx w12 xbn:=hSn.ext hxbn
                            refine⟨hSbn,?_⟩
                            simp only[Act.put,sA,sZ,sS]
                            have lCn:gbn< xbn.heap.size:=blk_lt hCn
                            refine rg_one 0 kB ?_
                            refine tk_new 0 (some 147) (.cells #[] 66) (fun n=> .slice (some ⟨n,0,none⟩) 0 0) rfl rfl (by rfl) kF ?_
                            intro gan xan egan hxan hzxan hgan
                            have hSan:Sx w12 xan:=hSbn.ext hxan
                            refine⟨hSan,?_⟩
                            simp only[Act.put,sA,sZ,sS]
                            have ownAn:xan.ownsRow w12.heap.size 66 5 (.slice (some ⟨gan,0,none⟩) 0 0) 0 []:=own_empty' (by rw[egan];exact(show Ext w12 _ from hSbn).size) hgan
                            have hC':=(Below.block hxan gbn lCn).trans hCn
                            clear hCn
                            have hCn:=hC'
                            clear hC'
                            have neCn:gbn≠gan:=by omega
                            refine rg_one 5 kB ?_
                            refine tk_src 5 (some 152) rfl rfl (by rfl) (.tmp 147) (.tmp 151) 23 rfl w12.heap.size 66 k0 (.agg #[.int .i64 0,.string ⟨#[]⟩,.string ⟨#[]⟩,.slice none 0 0,.slice none 0 0]) 5 88 Tryz.underlying23 ki kz0 kz1 kz2 rfl kD _ 0 [] rfl ownAn vt2 pl (us2.take (pl*5)) rfl (hvt2.ext hSan) (fun u hu=>h1u2 u (List.mem_of_mem_take hu)) kC kA (show Ext w12 _ from hSan).size ?_
                            intro v2n xcn hr2n hg2n ha2n
                            have hScn:Sx w12 xcn:=sx_grown hSan ownAn hg2n
                            refine⟨hScn,?_⟩
                            simp only[Act.put,sA,sZ,sS]
                            have ownBn:xcn.ownsRow w12.heap.size 66 5 v2n pl (us2.take (pl*5)):=by rw[Nat.zero_add,List.nil_append]at hr2n;exact hr2n
                            have hC':=(hg2n.block gbn (blk_lt hCn) (by intro e;exact neCn (Option.some.inj e))).trans hCn
                            clear hCn
                            have hCn:=hC'
                            clear hC'
                            refine rg_one 8 kB ?_
                            refine tk_src 8 (some 155) rfl rfl (by rfl) (.tmp 152) (.tmp 154) 23 rfl w12.heap.size 66 k0 (.agg #[.int .i64 0,.string ⟨#[]⟩,.string ⟨#[]⟩,.slice none 0 0,.slice none 0 0]) 5 88 Tryz.underlying23 ki kz0 kz1 kz2 rfl kD _ pl (us2.take (pl*5)) rfl ownBn (.slice (some ⟨gbn,0,none⟩) 1 1) 1 [.int .i64 kd.kind,.string (bs kd.name),.string (bs kd.text),.slice yaa yan yac,.slice yka ykn ykc] rfl (Src.block hCn rfl) kL kC kA (show Ext w12 _ from hScn).size ?_
                            intro v3n xdn hr3n hg3n ha3n
                            have hSdn:Sx w12 xdn:=sx_grown hScn ownBn hg3n
                            refine⟨hSdn,?_⟩
                            simp only[Act.put,sA,sZ,sS]
                            refine rg_one 13 kB ?_
                            refine tk_src 13 (some 160) rfl rfl (by rfl) (.tmp 155) (.tmp 159) 23 rfl w12.heap.size 66 k0 (.agg #[.int .i64 0,.string ⟨#[]⟩,.string ⟨#[]⟩,.slice none 0 0,.slice none 0 0]) 5 88 Tryz.underlying23 ki kz0 kz1 kz2 rfl kD _ (pl+1) ((us2.take (pl*5))++([.int .i64 kd.kind,.string (bs kd.name),.string (bs kd.text),.slice yaa yan yac,.slice yka ykn ykc]:List Value)) rfl hr3n vd2 (outk.length - pl) (us2.drop (pl*5)) rfl (hvd2.ext hSdn) (fun u hu=>h1u2 u (List.mem_of_mem_drop hu)) kC kA (show Ext w12 _ from hSdn).size ?_
                            intro v4n xen hr4n hg4n ha4n
                            have hSen:Sx w12 xen:=sx_grown hSdn hr3n hg4n
                            refine⟨hSen,?_⟩
                            simp only[Act.put,sA,sZ,sS]
                            refine gT 14 161 (.pointer (some ⟨g11,4,none⟩)) hSen ?_
                            simp only[Act.put,sA,sZ,sS]
                            refine rg_t 15 none (.bool true) rfl hSen (fun w' hs=>by rfl) ?_
                            simp only[Act.put,sA,sZ,sS]
                            refine rg_done kB ?_
                            obtain⟨v4o,v4c,rfl⟩:=own_form hr4n
                            have a4c:=hSen.cell lg12 g4c
                            have a4f:=(show Ext w12 _ from hSen).free lg12 g4f
                            refine qlast_normal ?_
                            refine tk_write 15 none (xen.setCell ⟨g11,4,none⟩ (.slice v4o (pl+1+(outk.length - pl)) v4c)) (by rfl) rfl (by rfl) (exec_store rfl (store_slice _ s1Node a4c a4f _ _ _)) ?_
                            exact⟨gan,gbn,v2n,v3n,(.slice v4o (pl+1+(outk.length - pl)) v4c),xen,kH,rfl,hSen,hr4n⟩
                        rintro _ w13 ⟨gan,gbn,v2n,v3n,v4n,xw,rfl,hw13,hS13,hr13⟩
                        simp only[Act.put,sA,sZ,sS]
                        have hS13':Ext w12 xw:=hS13
                        have hovx:Rep xw (fun b=>w2.heap.size≤b) v4n (nodesD (insAt outk pl kd)):=(Rep.ins z_node hus2 (by
                          rw[nodeC_eq]
                          exact Reps.cons (Rep.int _ _ _ _) (Reps.cons (Rep.string _ _ _ kU) (Reps.cons (Rep.string _ _ _ kU) (Reps.cons (hya12.ok fun b hb=>by omega) (Reps.cons (hyk12.ok fun b hb=>by omega) (Reps.nil _ _)))))) hS13' hr13).ok fun b hb=>by omega
                        obtain⟨v4o,v4c,rfl,_,_⟩:=hovx.count z_node kA
                        have hXw:Ext wo xw:=hX12.trans hS13'
                        have hE13:Exc g11 xw w13:=by rw[hw13];exact(Exc.refl g11 xw).set rfl _
                        have hg2:w.heap.size+2≤g11:=hg
                        have hE813:Ext w8 xw:=hX812.trans hS13'
                        have hb15w:=(HM10.out.2.2.2.1.ext (HM10.out.2.2.2.2.trans (hXq.trans (hS12'.trans hS13')))).exc kA hE13
                        have hza13:=(HHK.out.2.2.2.2.1.ext hXw).exc (fun b hb=>by omega) hE13
                        have hzk13:=(HHK.out.2.2.2.2.2.ext hXw).exc (fun b hb=>by omega) hE13
                        have HEL:=Lh fun W (hE:Ext w13 W)=>elements_any N x _ _ _ W HG.out.2.1 HG.out.2.2 (hza13.ext hE) (hzk13.ext hE)
                        have hel:=elemsN_le x
                        have HT10:=HT9.out
                        obtain⟨en,hen⟩:∃n,elemsN x=n:=⟨_,rfl⟩
                        rw[hen]at HEL HT10 hel
                        have hatb:at'+(en:Int)≤4194304:=by have:=HG.out.1;omega
                        have HNF:Hid (NFact l a path first R SA w w2 g11 (.slice ba a.attrs.length ca) (.slice (some ⟨gk,ok,none⟩) a.kids.length ck) (.slice xaa nA xac) w13 (i+1) (at'+en) (insAt steps pl ⟨x.name,KEY⟩) (insAt outk pl kd) (.slice s4a (insAt steps pl (⟨x.name,KEY⟩:Step)).length s4c) (.slice v4o (insAt outk pl kd).length v4c)):=by
                          obtain⟨h1,h2,h3,h4,h5,h6,h7,h8,h9⟩:=HH.out
                          refine Lh ⟨(h1.ext hXw).exc kA hE13,(h2.ext hXw).exc kA hE13,by rw[hw13];exact(h3.ext hXw).set4 _ rfl rfl rfl,by rw[hw13];exact(h4.ext hXw).set rfl _,(hdv12.ext hS13').exc (fun b hb=>by omega) hE13,hovx.exc (fun b hb=>by omega) hE13,by rw[insAt_len,insAt_len,h7],?_,HT10⟩
                          have:=HG.out.1
                          rw[cntL_ins];omega
                        have hXF:Ext w w13:=by rw[hw13];exact(HHK.out.1.trans hXw).set kS _
                        have hbd:((at'+en:Int))+cntL (a.kids.drop (i+1))≤first+cntN a:=by have:=HG.out.1;omega
                        have ec0:=hb15w.c0
                        have ef0:=hb15w.f0
                        have ec1:=hb15w.c1
                        have ef1:=hb15w.f1
                        have ec2:=hb15w.c2
                        have ef2:=hb15w.f2
                        have ec3:=hb15w.c3
                        have ef3:=hb15w.f3
                        have ec4:=hb15w.c4
                        have ef4:=hb15w.f4
                        clear hen HT10 HT9 hus2 hul2 hvt2 evt2 hvd2 evd2 h1u2 hr13 hw13 hovx hdv12 hov12 hya12 hyk12 hza13 hzk13 hb15w hbo12 g4c g4f hn4
                        go_wp2_with fail
                        refine(HEL.out _ (Ext.refl _)).mono ?_
                        rintro e w14 ⟨rfl,hB14⟩
                        have hen0:=nZ0 en
                        go_wp2_with fail
                        go_roundw
                        case rel=>exact⟨i+1,at'+en,insAt steps pl ⟨x.name,KEY⟩,insAt outk pl kd,s4a,s4c,v4o,v4c,by go_num,by go_num,rfl,by omega,by rw[insAt_len];omega,by omega,hbd,hXF.trans hB14,Lh (HNF.out.ext hB14)⟩
                        case measure=>exact mZ
                · have qe:(ke !=0)=true:=by rw[bne_iff_ne];exact hke
                  have HN:Hid ((zeroN,ke,kw)=R):=Lh (by rw[HS4.out];(try simp only);rw[if_pos hke])
                  clear HS4 hke
                  have HRB:=Lh (HH.out.2.1.ext (hX7.alloc (.cells #[.int .i64 kd.kind,.string (bs kd.name),.string (bs kd.text),.slice yaa yan yac,.slice yka ykn ykc] 66)))
                  have HXX:=Lh (hX.trans (hX7.alloc (.cells #[.int .i64 kd.kind,.string (bs kd.name),.string (bs kd.text),.slice yaa yan yac,.slice yka ykn ykc] 66)))
                  have rc0:=HRB.out.c0
                  have rf0:=HRB.out.f0
                  have rc1:=HRB.out.c1
                  have rf1:=HRB.out.f1
                  have rc2:=HRB.out.c2
                  have rf2:=HRB.out.f2
                  have rc3:=HRB.out.c3
                  have rf3:=HRB.out.f3
                  have rc4:=HRB.out.c4
                  have rf4:=HRB.out.f4
                  go_wp2_with fail
                  (try simp only[Exit.inBlock,Exit.then])
                  refine bodyPost_ret (res_node3 rfl _ _ _ ⟨w.heap.size+1,0,none⟩ ?_ (load_node (B5.put (n:=zeroN) (xa:= .slice none 0 0) (xk:= .slice none 0 0) HRB.out))) rfl ?_
                  · rfl
                  rw[←HN.out]
                  exact⟨⟨_,_,rfl,.nil 2,.nil 5⟩,HXX.out.st5 kA zeroN _ _⟩
            · have q1:(x.kind !=1)=true:=by rw[bne_iff_ne];exact hk1
              have HN:Hid (normL l (a.kids.drop (i+1)) a.name SA path first steps outk at'=R):=Lh (by rw[HS1,if_neg (fun h=>hk2 h.1),if_pos hk1])
              clear HS1 hk1 hk2 htx
              go_wp2_with fail
              go_roundw
              case rel=>exact⟨i+1,at',steps,outk,sa,scap,oa,ocap,by go_num,rfl,rfl,by omega,by omega,hat0,by omega,hX.trans ((Ext.refl wr).alloc _),Lh ((HH.out.ext ((Ext.refl wr).alloc _)).skip hlt HN.out)⟩
              case measure=>exact mZ
        · have hlI:¬(i:Int)< (a.kids.length:Int):=by omega
          have HN:Hid ((Node.mk 1 a.name [] SA outk,(0:Int),(0:Int))=R):=Lh (by
            have:=HH.out.2.2.2.2.2.2.2.2
            rw[List.drop_of_length_le kA,normL]at this;exact this)
          have hboz:=HH.out.2.2.1
          have hbrz:=HH.out.2.1
          have oc0:=hboz.c0
          have of0:=hboz.f0
          have oc1:=hboz.c1
          have of1:=hboz.f1
          have oc2:=hboz.c2
          have of2:=hboz.f2
          have oc3:=hboz.c3
          have of3:=hboz.f3
          have oc4:=hboz.c4
          have of4:=hboz.f4
          have rc0:=hbrz.c0
          have rf0:=hbrz.f0
          have rc1:=hbrz.c1
          have rf1:=hbrz.f1
          have rc2:=hbrz.c2
          have rf2:=hbrz.f2
          have rc3:=hbrz.c3
          have rf3:=hbrz.f3
          have rc4:=hbrz.c4
          have rf4:=hbrz.f4
          have HRB:=Lh hbrz
          have HXX:=Lh hX
          have HXA:Hid (Rep wr (fun b=>w.heap.size+2≤b∧b≠g11) (.slice xaa nA xac) (attrsD SA)∧Rep wr (fun b=>w2.heap.size≤b) (.slice oa outk.length ocap) (nodesD outk)∧w.heap.size+2≤w2.heap.size):=Lh ⟨hxa.exc (fun b hb=>hb.2) HH.out.2.2.2.1,HH.out.2.2.2.2.2.1,by omega⟩
          clear hboz hbrz HH
          go_wp2_with fail
          (try simp only[Exit.inBlock,Exit.then])
          refine bodyPost_ret (res_node3 rfl _ _ _ ⟨w.heap.size+1,0,none⟩ ?_ (load_node (B5.put (n:=Node.mk 1 a.name [] SA outk) (xa:= .slice xaa nA xac) (xk:= .slice oa outk.length ocap) HRB.out))) rfl ?_
          · rfl
          rw[←HN.out]
          have hX6:=HXX.out.st5 (b:=w.heap.size+1) kA (Node.mk 1 a.name [] SA outk) (.slice xaa nA xac) (.slice oa outk.length ocap)
          exact⟨⟨_,_,rfl,(HXA.out.1.kept fun b hb _=>st5_block _ _ _ _ _ kA).ok fun b hb=>by omega,(HXA.out.2.1.kept fun b hb _=>st5_block _ _ _ _ _ (by have:=HXA.out.2.2;omega)).ok fun b hb=>by have:=HXA.out.2.2;omega⟩,hX6⟩
end Go.Proofs.YtngmgjodcnknoaaGreatDoor
