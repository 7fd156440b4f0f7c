/-
 law13.mixed:sizes. Helper lemmas;no statement of the seat is proved here.
-/
import Derived.Test.YtebhipeeogoagaaGreatDoorU18
namespace Go.Proofs.YtebhipeeogoagaaGreatDoor
open Go.RowKit
set_option maxHeartbeats 32000000
set_option maxRecDepth 100000
set_option linter.unusedVariables false
set_option linter.unusedSimpArgs false
theorem cntA_reverse:∀a:List Attr,cntA a.reverse=cntA a
 | []=>rfl
 | x::r=>by rw[List.reverse_cons,cntA_append,cntA_reverse r,cntA,cntA,cntA];omega
theorem cnt_cm:cntN cmN=2:=by simp[cmN,cntN,cntA,cntL]
mutual
theorem mix_cnt (l:List Rule):∀(n:Node) (path:List Bytes),cntN (mixN l n path)+2≤3*cntN n
 | .mk k nm t la ks,path=>by
  have h1:=mixF_cnt l ks
  have h2:=mixK_cnt l ks path
  rw[mixN]
  split
  ·
   rw[cntN,cntN,cntA_reverse];omega
  ·
   rw[cntN,cntN,cntA_reverse];omega
theorem mixF_cnt (l:List Rule):∀ks:List Node,cntL (mixF l ks)≤3*cntL ks
 | []=>by rw[mixF];simp[cntL]
 | k::r=>by
  have h1:=mix_cnt l k []
  have h2:=mixF_cnt l r
  rw[mixF,cntL,cntL];omega
theorem mixK_cnt (l:List Rule):∀(ks:List Node) (path:List Bytes),cntL (mixK l ks path)≤3*cntL ks
 | [],path=>by rw[mixK];simp[cntL]
 | k::r,path=>by
  have h1:=mix_cnt l k (path++ [k.name])
  have h2:=mixK_cnt l r path
  rw[mixK,cntL_append,cntL,cntL,cntL,cntL,cnt_cm];omega
end
theorem lawsmall_any (l:List Rule) (a:Node) {p q:Nat→Prop} (v va vk:Value) (w:World) (hc:cntN a≤1048576) (hl:Rep w q v (rulesD l)) (hva:Rep w p va (attrsD a.attrs)) (hvk:Rep w p vk (nodesD a.kids)):
  Calls Tryz.prog 5 #[v,.agg #[.int .i64 a.kind,.string (bs a.name),.string (bs a.text),va,vk]] w fun e w'=>SomeB (fun b=>b=true→cntN a≤2000) e∧Ext w w':=by
 have HS:=Lh fun W (hE:Ext w W)=>rsmall_any q l v W (hl.ext hE)
 have HC:=Lh fun W (hE:Ext w W)=>bigsmall_any 2000 (by decide) a p va vk W hc (hva.ext hE) (hvk.ext hE)
 obtain⟨ba,ca,rfl,_,_⟩:=hva.count z_attr (by omega)
 obtain⟨bk,ck,rfl,_,_⟩:=hvk.count z_node (by omega)
 obtain⟨b2,hb2⟩:∃b,decide (smallN 2000 a≤2000)=b:=⟨_,rfl⟩
 rw[hb2]at HC
 have HB:=Lh (show b2=true→cntN a≤2000 from fun h=>by
  subst h
  have h1:=smallN_le 2000 a
  have h2:=of_decide_eq_true hb2
  have h3:=h1.2 h2
  omega)
 clear hl hva hvk hc hb2
 obtain⟨w1,hw1⟩:∃X,w.alloc (.cells #[.int .i64 a.kind,.string (bs a.name),.string (bs a.text),.slice ba a.attrs.length ca,.slice bk a.kids.length ck] 26)=X:=⟨_,rfl⟩
 have hE1:Ext w w1:=by rw[←hw1];exact(Ext.refl w).alloc _
 have hb1:B5 w1 w.heap.size a (.slice ba a.attrs.length ca) (.slice bk a.kids.length ck):=by rw[←hw1];exact b5_box w a _ _
 go_enter Tryz.func5,Tryz.ntmps5
 go_wp2_with fail
 refine(HS.out _ hE1).mono ?_
 rintro e w2 ⟨⟨b1,rfl,_⟩,hB1⟩
 cases b1 with
 | false=>
  go_wp2_with fail
  go_ret
  exact⟨⟨_,rfl,fun h=>by cases h⟩,hE1.trans hB1⟩
 | true=>
  have k0:=(hb1.ext hB1).c0;have k1:=(hb1.ext hB1).c1;have k2:=(hb1.ext hB1).c2;have k3:=(hb1.ext hB1).c3;have k4:=(hb1.ext hB1).c4
  go_wp2_with fail
  refine(HC.out _ (hE1.trans hB1)).mono ?_
  rintro e w3 ⟨rfl,hB2⟩
  go_wp2_with fail
  go_ret
  exact⟨⟨_,rfl,HB.out⟩,(hE1.trans hB1).trans hB2⟩
end Go.Proofs.YtebhipeeogoagaaGreatDoor
