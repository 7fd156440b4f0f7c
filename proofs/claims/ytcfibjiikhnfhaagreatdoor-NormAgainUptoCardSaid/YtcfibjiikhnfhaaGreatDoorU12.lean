/-
 norm.content. Helper lemmas;no statement of the seat is proved here.
-/
import Derived.Test.YtcfibjiikhnfhaaGreatDoorU11
import Derived.Deep.DeepCutAuto
namespace Go.Proofs.YtcfibjiikhnfhaaGreatDoor
open Go.RowKit
set_option maxHeartbeats 32000000
set_option maxRecDepth 100000
set_option linter.unusedVariables false
set_option linter.unusedSimpArgs false
theorem cntL_mem (l:List Node) (i:Nat) (h:i< l.length):cntN l[i]≤cntL l:=by
 induction l generalizing i with
 | nil=>simp at h
 | cons n r ih=>
  cases i with
  | zero=>rw[cntL];simp
  | succ i=>rw[cntL];have:=ih i (by simpa using h);simp only[List.getElem_cons_succ];omega
theorem Own.rows {w:World} {p:Nat→Prop} {base z n:Nat} {e:TypeId} {v:Value} {es:List DV} (h:Own w p base e z v n es):∃us,w.ownsRow base e z v n us∧Reps w (fun b=>p b∧some b≠v.ownBlock∧b< w.heap.size) us es:=h
theorem Ext.grown_own {a w w':World} {o:Obj} {e:TypeId} {n s:Nat} {v:Value} {xs:List Value} (h:Ext a w) (hown:w.ownsRow a.heap.size e s v n xs) (hg:(w.alloc o).grownBy w' v.ownBlock):Ext a w':=
 Below.grown (h.alloc o) hg (Below.size (h.alloc o)) fun k hk=>(hown.lt k hk).1
theorem contL_take:∀(l:List Node) (i:Nat) (h:i< l.length),contL (l.take (i+1))=contL (l.take i)++ [contN l[i]]
 | [],i,h=>absurd h (Nat.not_lt_zero _)
 | n::r,0,h=>by simp[contL]
 | n::r,i+1,h=>by
  rw[List.take_succ_cons,List.take_succ_cons,contL,contL,contL_take r i (by simpa using h)];rfl
theorem B5.set3 {W:World} {b:Nat} {n m:Node} {xa xk:Value} (h:B5 W b n xa xk) (ya:Value) (h0:m.kind=n.kind) (h1:m.name=n.name) (h2:m.text=n.text):B5 (W.setCell ⟨b,3,none⟩ ya) b m ya xk:=by
 have hlt:=h.lt
 have c0:=h.c0;have c1:=h.c1;have c2:=h.c2;have c3:=h.c3;have c4:=h.c4
 have f0:=h.f0;have f1:=h.f1;have f2:=h.f2;have f3:=h.f3;have f4:=h.f4
 exact⟨by simpa using hlt,by rw[h0];simp[go_sem, *],by rw[h1];simp[go_sem, *],by rw[h2];simp[go_sem, *],by simp[go_sem, *],by simp[go_sem, *],by simp[go_sem, *],by simp[go_sem, *],by simp[go_sem, *],by simp[go_sem, *],by simp[go_sem, *]⟩
theorem B5.set4 {W:World} {b:Nat} {n m:Node} {xa xk:Value} (h:B5 W b n xa xk) (yk:Value) (h0:m.kind=n.kind) (h1:m.name=n.name) (h2:m.text=n.text):B5 (W.setCell ⟨b,4,none⟩ yk) b m xa yk:=by
 have hlt:=h.lt
 have c0:=h.c0;have c1:=h.c1;have c2:=h.c2;have c3:=h.c3;have c4:=h.c4
 have f0:=h.f0;have f1:=h.f1;have f2:=h.f2;have f3:=h.f3;have f4:=h.f4
 exact⟨by simpa using hlt,by rw[h0];simp[go_sem, *],by rw[h1];simp[go_sem, *],by rw[h2];simp[go_sem, *],by simp[go_sem, *],by simp[go_sem, *],by simp[go_sem, *],by simp[go_sem, *],by simp[go_sem, *],by simp[go_sem, *],by simp[go_sem, *]⟩
theorem new_cells {w:World} {e:TypeId} (cs:List Value):∀(j:Nat) (v:Value),cs[j]? =some v→(w.alloc (.cells cs.toArray e)).cell? ((⟨w.heap.size,0,none⟩:Addr).add j)=some v:=fun j v hj=>by
 rw[add_offs',Nat.zero_add]
 have:(w.alloc (.cells cs.toArray e)).heap[w.heap.size]? =some (.cells cs.toArray e):=Array.getElem?_push_size ..
 unfold World.cell?
 rw[this]
 simp[hj]
theorem infoNode:(Tryz.prog.info? 26).map (fun i=>(i.zero,i.size,i.bytes))=some (some (.agg #[.int .i64 0,.string ⟨#[]⟩,.string ⟨#[]⟩,.slice none 0 0,.slice none 0 0]),5,88):=by kernel_rfl
theorem s1Node:∀W,(sizeOf 24).run Tryz.prog W= .ok 1 W:=fun W=>by go_simp
theorem s1Attr:∀W,(sizeOf 23).run Tryz.prog W= .ok 1 W:=fun W=>by go_simp
theorem ndL_get:∀(l:List Node) (i:Nat) (h:i< l.length),ndL l→ndN l[i]:=fun l i h hn=>ndL_mem l _ hn (List.getElem_mem h)
theorem content_any:∀(N:Nat) (ks:List Node) (p:Nat→Prop) (v:Value) (w:World),(∀(i:Nat) (h:i< ks.length),nsz ks[i]≤N)→cntL ks≤1048576→ndL ks→Rep w p v (nodesD ks)→
  Calls Tryz.prog 48 #[v] w fun e w'=>Ret (fun b=>w.heap.size≤b) (nodesD (contL ks)) e w'∧Ext w w':=by
 intro N
 induction N with
 | zero=>
  intro ks p v w hN hcnt hnd hv
  have h0:ks= []:=by
   cases ks with
   | nil=>rfl
   | cons n r=>have:=hN 0 (by simp);cases n;simp[nsz]at this
  subst h0
  obtain⟨a,c,rfl,hc1,hc2⟩:=hv.count z_node (by omega)
  go_enter Tryz.func48,Tryz.ntmps48
  go_wp2_with fail
  go_loopw [3,5,8] (fun o _ t wr=>t= .int .i64 0∧o= .slice none 0 0∧wr=w) (fun _ _ _ _=>0)
  case atStart=>exact⟨rfl,rfl,rfl⟩
  case round=>
   obtain⟨rfl,rfl,rfl⟩:=hrel
   go_wp2_with fail
   go_ret
   exact⟨⟨_,rfl,.nil 5⟩,Ext.refl _⟩
 | succ N ih=>
  intro ks p v w hN hcnt hnd hv
  obtain⟨a,c,rfl,hc1,hc2⟩:=hv.count z_node (by omega)
  obtain⟨i0,hi,hz0,hz1,hz2⟩:=info_parts infoNode
  obtain⟨R,hR⟩:∃R,contL ks=R:=⟨_,rfl⟩
  rw[hR]
  have HR:=Lh hR
  have HM:=Lh (And.intro hN hnd)
  have hkl:=cntL_len ks
  have HCM:Hid (∀(i:Nat) (h:i< ks.length),cntN ks[i]≤1048576):=Lh (fun i h=>by have:=cntL_mem ks i h;omega)
  have IH:=Lh ih
  clear hR hN hnd ih
  go_enter Tryz.func48,Tryz.ntmps48
  go_wp2_with fail
  go_loopw [3,5,8] (fun o _ t wr=>∃(i:Nat) (L:List Node) (dv:Value),t= .int .i64 i∧dv=o∧i≤ks.length∧L.length≤i∧Ext w wr∧Hid (Own wr (fun b=>w.heap.size≤b) w.heap.size 26 5 dv L.length (L.flatMap nodeC)∧L=contL (ks.take i))) (fun _ _ t _=>downV ks.length t)
  case atStart=>exact⟨0,[],_,rfl,rfl,Nat.zero_le _,Nat.le_refl _,Ext.refl _,Lh ⟨Own.nil _ _ _ _ _,by simp[contL]⟩⟩
  case round=>
   obtain⟨i,L,dv,rfl,rfl,hi2,hL,hX,HH⟩:=hrel
   have hi0:(0:Int)≤(i:Int):=by omega
   have hwz:=hX.size
   by_cases hlt:i< ks.length
   ·
    have hlI:(i:Int)< (ks.length:Int):=by omega
    obtain⟨g,o,za,zk,rfl,lg,_,d0,d1,d2,d3,d4,hza,hzk⟩:=node_at (hv.ext hX) i hlt
    have hm:=HM.out.1 i hlt
    have hnx:=ndL_get ks i hlt HM.out.2
    have hcm:=HCM.out i hlt
    have hnl:=node_len hv i hlt
    have HS:Hid (contL (ks.take (i+1))=contL (ks.take i)++ [contN ks[i]]):=Lh (contL_take ks i hlt)
    obtain⟨x,hx⟩:∃x,ks[i]=x:=⟨_,rfl⟩
    rw[hx]at d0 d1 d2 hza hzk hm hcm hnl hnx HS
    clear hx
    have hck:=cnt_kids x
    have hal:=cntA_len x.attrs
    rw[ndN_eq]at hnx
    have hnk:∀(j:Nat) (h:j< x.kids.length),nsz x.kids[j]≤N:=fun j h=>by have:=kid_lt x j h;omega
    obtain⟨zab,zac,rfl,_,_⟩:=hza.count z_attr (by omega)
    obtain⟨zkb,zkc,rfl,_,_⟩:=hzk.count z_node (by omega)
    obtain⟨w2,hw2⟩:∃W,wr.alloc (.cells #[.int .i64 x.kind,.string (bs x.name),.string (bs x.text),.slice zab x.attrs.length zac,.slice zkb x.kids.length zkc] 26)=W:=⟨_,rfl⟩
    obtain⟨g5,hg5⟩:∃g,wr.heap.size=g:=⟨_,rfl⟩
    have hE2:Ext wr w2:=by rw[←hw2];exact(Ext.refl wr).alloc _
    have hs2:w2.heap.size=g5+1:=by rw[←hw2,←hg5];simp
    have hb2:B5 w2 g5 x (.slice zab x.attrs.length zac) (.slice zkb x.kids.length zkc):=by rw[←hw2,←hg5];exact b5_box wr x _ _
    obtain⟨la,hla⟩:∃l,sortA [] x.attrs=l:=⟨_,rfl⟩
    obtain⟨lk,hlk⟩:∃l,contL x.kids=l:=⟨_,rfl⟩
    have HA:Hid (∀W,Ext w2 W→Calls Tryz.prog 45 #[.slice zab x.attrs.length zac] W fun e w'=>∃ua uc,e= .returned (.slice ua la.length uc)∧Rep w' (fun b=>w2.heap.size≤b) (.slice ua la.length uc) (attrsD la)∧Ext W w'):=Lh fun W hE=>
     (rising_any x.attrs hnx.1 p _ W (by omega) (hza.ext (hE2.trans hE))).mono fun e w' ⟨⟨u,he,hu⟩,hB⟩=>by
      rw[hla]at hu
      obtain⟨ua,uc,rfl,_,_⟩:=hu.count z_attr (by omega)
      exact⟨ua,uc,he,hu.ok fun b hb=>by have:=hE.size;omega,hB⟩
    have HC:Hid (∀W,Ext w2 W→Calls Tryz.prog 48 #[.slice zkb x.kids.length zkc] W fun e w'=>∃ua uc,e= .returned (.slice ua lk.length uc)∧Rep w' (fun b=>w2.heap.size≤b) (.slice ua lk.length uc) (nodesD lk)∧Ext W w'):=Lh fun W hE=>
     (IH.out x.kids p _ W hnk (by omega) hnx.2 (hzk.ext (hE2.trans hE))).mono fun e w' ⟨⟨u,he,hu⟩,hB⟩=>by
      rw[hlk]at hu
      obtain⟨ua,uc,rfl,_,_⟩:=hu.count z_node (by omega)
      exact⟨ua,uc,he,hu.ok fun b hb=>by have:=hE.size;omega,hB⟩
    have HXE:=Lh (contN_eq x)
    have HLA:=Lh (And.intro hla hlk)
    have HB5:=Lh hb2
    have HW:=Lh (And.intro hw2 hg5)
    have n3:=hb2.c3;have n4:=hb2.c4
    have l5:g5< w2.heap.size:=by omega
    have HG5:Hid (wr.heap.size≤g5∧Ext wr w2∧w2.heap.size=g5+1):=Lh ⟨by omega,hE2,hs2⟩
    clear hck hal hnk hm hcm hnx hza hzk hw2 hg5 hE2 hs2 hb2 hla hlk
    go_upto_region 5 with fail
    rw[HW.out.1,HW.out.2]
    clear d0 d1 d2 d3 d4
    refine rg_cut (S:=Sx w2) 7 (by kernel_rfl) (by kernel_rfl) (by kernel_rfl) (by kernel_rfl) (Sx.begin _) ?_
    have hSc:Sx w2 (World.drew w2):=(Sx.begin _)
    refine rg_t 0 (some 12) (.pointer (some ⟨g5,3,none⟩)) rfl hSc (fun w' hs=>by first | rfl | go_simp) ?_
    simp only[Act.put,sA,sZ,sS]
    refine rg_t 1 (some 13) (.slice zab x.attrs.length zac) rfl hSc (fun w' hs=>by(have h0:=hs.cell l5 n3;go_simp)) ?_
    simp only[Act.put,sA,sZ,sS]
    refine rg_t 3 (some 15) (.pointer (some ⟨g5,4,none⟩)) rfl hSc (fun w' hs=>by first | rfl | go_simp) ?_
    simp only[Act.put,sA,sZ,sS]
    refine rg_t 4 (some 16) (.slice zkb x.kids.length zkc) rfl hSc (fun w' hs=>by(have h0:=hs.cell l5 n4;go_simp)) ?_
    simp only[Act.put,sA,sZ,sS]
    refine rg_call 2 (some 14) 45 #[.slice zab x.attrs.length zac] rfl rfl (by kernel_rfl) (by rfl) (fun w'=>by first | rfl | go_simp) (R:=fun v w'=>∃(ua:Option Addr) (uc:Nat),v= .slice ua la.length uc∧Rep w' (fun b=>w2.heap.size≤b) (.slice ua la.length uc) (attrsD la)∧Ext (World.drew w2) w') ?_ ?_
    ·
     refine(HA.out (World.drew w2) hSc).mono ?_
     rintro e w' ⟨ua,uc,rfl,hu,hB⟩
     exact⟨_,rfl,ua,uc,rfl,hu,hB⟩
    rintro _ wrc1 ⟨uaa,uac,rfl,hua,hBrc1⟩
    have hSc1:=hSc.ext hBrc1
    refine⟨hSc1,?_⟩
    simp only[Act.put,sA,sZ,sS]
    refine rg_t 6 (some 18) (.pointer (some ⟨g5,3,none⟩)) rfl hSc1 (fun w' hs=>by first | rfl | go_simp) ?_
    simp only[Act.put,sA,sZ,sS]
    refine rg_call 5 (some 17) 48 #[.slice zkb x.kids.length zkc] rfl rfl (by kernel_rfl) (by rfl) (fun w'=>by first | rfl | go_simp) (R:=fun v w'=>∃(ua:Option Addr) (uc:Nat),v= .slice ua lk.length uc∧Rep w' (fun b=>w2.heap.size≤b) (.slice ua lk.length uc) (nodesD lk)∧Ext wrc1 w') ?_ ?_
    ·
     refine(HC.out wrc1 hSc1).mono ?_
     rintro e w' ⟨ua,uc,rfl,hu,hB⟩
     exact⟨_,rfl,ua,uc,rfl,hu,hB⟩
    rintro _ wrc2 ⟨uka,ukc,rfl,huk,hBrc2⟩
    have hSc2:=hSc1.ext hBrc2
    refine⟨hSc2,?_⟩
    simp only[Act.put,sA,sZ,sS]
    have hua2:=hua.ext hBrc2
    have hb3:=HB5.out.ext hSc2
    have c3:=hb3.c3
    have f3:=hb3.f3
    have hE3:Ext w2 wrc2:=hSc2
    refine rg_done (by kernel_rfl) ?_
    refine rg_go 3 #[true,true,true,true,true,true,true,false,false,false] (by kernel_rfl) (by kernel_rfl) fun m=> ?_
    refine rg_write 7 none (wrc2.setCell ⟨g5,3,none⟩ (.slice uaa la.length uac)) rfl rfl (by kernel_rfl) (by rfl) (exec_store rfl (store_slice _ s1Attr c3 f3 _ _ _)) trivial ?_
    simp only[Act.put,sA,sZ,sS]
    have hb4:B5 (wrc2.setCell ⟨g5,3,none⟩ (.slice uaa la.length uac)) g5 x (.slice uaa la.length uac) (.slice zkb x.kids.length zkc):=hb3.set3 _ rfl rfl rfl
    have c4':=hb4.c4
    have f4':=hb4.f4
    refine rg_t 8 (some 19) (.pointer (some ⟨g5,4,none⟩)) rfl trivial (fun w' hs=>by first | rfl | go_simp) ?_
    simp only[Act.put,sA,sZ,sS]
    refine rg_write 9 none ((wrc2.setCell ⟨g5,3,none⟩ (.slice uaa la.length uac)).setCell ⟨g5,4,none⟩ (.slice uka lk.length ukc)) rfl rfl (by kernel_rfl) (by rfl) (exec_store rfl (store_slice _ s1Node c4' f4' _ _ _)) trivial ?_
    simp only[Act.put,sA,sZ,sS]
    refine rg_done (by kernel_rfl) ?_
    have hE5:Ext wr ((wrc2.setCell ⟨g5,3,none⟩ (.slice uaa la.length uac)).setCell ⟨g5,4,none⟩ (.slice uka lk.length ukc)):=((HG5.out.2.1.trans hE3).set (p:=⟨g5,3,none⟩) HG5.out.1 _).set (p:=⟨g5,4,none⟩) HG5.out.1 _
    have hb5:B5 ((wrc2.setCell ⟨g5,3,none⟩ (.slice uaa la.length uac)).setCell ⟨g5,4,none⟩ (.slice uka lk.length ukc)) g5 x (.slice uaa la.length uac) (.slice uka lk.length ukc):=hb4.set4 _ rfl rfl rfl
    have hset:∀(b:Nat),w2.heap.size≤b→((wrc2.setCell ⟨g5,3,none⟩ (.slice uaa la.length uac)).setCell ⟨g5,4,none⟩ (.slice uka lk.length ukc)).heap[b]? =wrc2.heap[b]? :=fun b hb=>by
     rw[Below.heap_setCell _ _ _ _ (by have:=HG5.out.2.2;simp only;omega),Below.heap_setCell _ _ _ _ (by have:=HG5.out.2.2;simp only;omega)]
    have hua5:Rep ((wrc2.setCell ⟨g5,3,none⟩ (.slice uaa la.length uac)).setCell ⟨g5,4,none⟩ (.slice uka lk.length ukc)) (fun b=>w2.heap.size≤b) (.slice uaa la.length uac) (attrsD la):=hua2.kept fun b hb _=>hset b hb
    have huk5:Rep ((wrc2.setCell ⟨g5,3,none⟩ (.slice uaa la.length uac)).setCell ⟨g5,4,none⟩ (.slice uka lk.length ukc)) (fun b=>w2.heap.size≤b) (.slice uka lk.length ukc) (nodesD lk):=huk.kept fun b hb _=>hset b hb
    obtain⟨w5,hw5⟩:∃W,(wrc2.setCell ⟨g5,3,none⟩ (.slice uaa la.length uac)).setCell ⟨g5,4,none⟩ (.slice uka lk.length ukc)=W:=⟨_,rfl⟩
    rw[hw5]at hE5 hb5 hua5 huk5
    rw[hw5]
    clear hset hw5 hua2 huk hua hb4 hb3 c3 f3 c4' f4' hE3 n3 n4 l5 HA HC hSc
    have hs5:=hE5.size
    obtain⟨us,hrowr,hreps⟩:=HH.out.1.rows
    have hrow:=rows_ext hrowr hE5
    have hrow0:Hid (∀b,some b=dv.ownBlock→b< wr.heap.size):=Lh (fun b hb=>by obtain⟨us',h',_⟩:=HH.out.1.rows;exact(h'.lt b hb.symm).2)
    have e0:=hb5.c0;have e1:=hb5.c1;have e2:=hb5.c2;have e3:=hb5.c3;have e4:=hb5.c4
    have hz5:w.heap.size≤w5.heap.size:=by omega
    have HU:=Lh (And.intro hua5 (And.intro huk5 (And.intro hreps (And.intro hE5 hX))))
    clear hua5 huk5 hreps hE5 hX hrowr hb5
    go_wp2_with (at_builtin;refine wpList_append_own_at _ rfl (.tmp 20) (.tmp 22) _ rfl w.heap.size 26 i0 (.agg #[.int .i64 0,.string ⟨#[]⟩,.string ⟨#[]⟩,.slice none 0 0,.slice none 0 0]) 5 88 Tryz.underlying24 hi hz0 hz1 hz2 rfl (by decide) dv L.length us rfl (hrow.alloc _) ⟨w5.heap.size,0,none⟩ 1 1 [.int .i64 x.kind,.string (bs x.name),.string (bs x.text),(.slice uaa la.length uac),(.slice uka lk.length ukc)] rfl rfl (by have:=new_cells (w:=w5) (e:=26) [.int .i64 x.kind,.string (bs x.name),.string (bs x.text),(.slice uaa la.length uac),(.slice uka lk.length ukc)];simpa using this) (by intro u hu;simp at hu;rcases hu with rfl | rfl | rfl | rfl | rfl<;> rfl) (by unfold maxLen;omega) (by omega) (by simp;omega) ?_;intro v2 w7 hown7 hgrow7 _ hat7)
    have hX7:Ext w w7:=(HU.out.2.2.2.2.trans HU.out.2.2.2.1).grown_own hrow hgrow7
    have hLL:Hid (L++ [contN x]=contL (ks.take (i+1))):=Lh (by rw[HS.out,HH.out.2])
    have hO7:Own w7 (fun b=>w.heap.size≤b) w.heap.size 26 5 v2 (L++ [contN x]).length ((L++ [contN x]).flatMap nodeC):=by
     rw[List.length_append,List.flatMap_append,List.flatMap_singleton,nodeC_eq,HXE.out.1,HXE.out.2.1,HXE.out.2.2.1,HXE.out.2.2.2.1,HXE.out.2.2.2.2,HLA.out.1,HLA.out.2]
     obtain⟨hua5,huk,hreps,hE5,hX⟩:=HU.out
     have hg5':=HG5.out.2.2
     have hg5'':=HG5.out.1
     refine Own.push (us:=us) ?_ (Reps.cons (Rep.int _ _ _ _) (Reps.cons (Rep.string _ _ _ (by rw[bs_size];exact hnl.1)) (Reps.cons (Rep.string _ _ _ (by rw[bs_size];exact hnl.2)) (Reps.cons (e:=attrsD la) ?_ (Reps.cons (e:=nodesD lk) ?_ (Reps.nil _ _)))))) hown7 hgrow7 hat7
     ·
      exact(hreps.ext (hE5.alloc _)).ok fun b hb=>⟨hb.1,hb.2.1,by simp;omega⟩
     ·
      refine(hua5.ext ((Ext.refl _).alloc _)).lt.ok fun b hb=>⟨by omega,fun e=> ?_,hb.2⟩
      have:=hrow0.out b e
      omega
     ·
      refine(huk.ext ((Ext.refl _).alloc _)).lt.ok fun b hb=>⟨by omega,fun e=> ?_,hb.2⟩
      have:=hrow0.out b e
      omega
    clear hown7 hgrow7 hat7 hrow HU
    go_wp2_with fail
    go_roundw
    case rel=>exact⟨i+1,L++ [contN x],v2,by go_num,rfl,by omega,by simp;omega,hX7,Lh ⟨hO7,hLL.out⟩⟩
    case measure=>simp only[downV];omega
   ·
    have hlI:¬(i:Int)< (ks.length:Int):=by omega
    have HO:=Lh (show Own wr (fun b=>w.heap.size≤b) w.heap.size 26 5 dv R.length (R.flatMap nodeC) by
     have h:=HH.out
     rw[List.take_of_length_le (by omega)]at h
     obtain⟨h1,h2⟩:=h
     rw[←HR.out,←h2];exact h1)
    clear HH
    go_wp2_with fail
    go_ret
    exact⟨⟨dv,rfl,HO.out.rep.ok fun b hb=>by rcases hb with h | h<;> exact h⟩,hX⟩
structure K7 (W:World) (b:Nat) (s:Step) (n:Node) (kv xa xk:Value):Prop where
 lt:b< W.heap.size
 c0:W.cell? ⟨b,0,none⟩=some (.string (bs s.n))
 c1:W.cell? ⟨b,1,none⟩=some kv
 c2:W.cell? ⟨b,2,none⟩=some (.int .i64 n.kind)
 c3:W.cell? ⟨b,3,none⟩=some (.string (bs n.name))
 c4:W.cell? ⟨b,4,none⟩=some (.string (bs n.text))
 c5:W.cell? ⟨b,5,none⟩=some xa
 c6:W.cell? ⟨b,6,none⟩=some xk
 fz:∀i,i< 7→W.frozen? ⟨b,i,none⟩=false
def keyedV (s:Step) (n:Node) (kv xa xk:Value):Value:= .agg #[.string (bs s.n),kv,.int .i64 n.kind,.string (bs n.name),.string (bs n.text),xa,xk]
def noStep:Step:=⟨[],[]⟩
def zeroK:Value:= .agg #[.string ⟨#[]⟩,.slice none 0 0,.int .i64 0,.string ⟨#[]⟩,.string ⟨#[]⟩,.slice none 0 0,.slice none 0 0]
theorem K7.ext {W W':World} {b:Nat} {s:Step} {n:Node} {kv xa xk:Value} (h:K7 W b s n kv xa xk) (hE:Ext W W'):K7 W' b s n kv xa xk:=
 ⟨Nat.lt_of_lt_of_le h.lt hE.size,hE.keep h.lt h.c0,hE.keep h.lt h.c1,hE.keep h.lt h.c2,hE.keep h.lt h.c3,hE.keep h.lt h.c4,hE.keep h.lt h.c5,hE.keep h.lt h.c6,fun i hi=>hE.free h.lt (h.fz i hi)⟩
theorem K7.block {W W':World} {b:Nat} {s:Step} {n:Node} {kv xa xk:Value} (h:K7 W b s n kv xa xk) (hl:W.heap.size≤W'.heap.size) (hb:W'.heap[b]? =W.heap[b]?):K7 W' b s n kv xa xk:=
 ⟨Nat.lt_of_lt_of_le h.lt hl,(World.cell?_of_block hb).trans h.c0,(World.cell?_of_block hb).trans h.c1,(World.cell?_of_block hb).trans h.c2,(World.cell?_of_block hb).trans h.c3,(World.cell?_of_block hb).trans h.c4,(World.cell?_of_block hb).trans h.c5,(World.cell?_of_block hb).trans h.c6,fun i hi=>(World.frozen?_of_block hb).trans (h.fz i hi)⟩
theorem k7_box (W:World) (s:Step) (n:Node) (kv xa xk:Value):K7 (W.alloc (.cells #[.string (bs s.n),kv,.int .i64 n.kind,.string (bs n.name),.string (bs n.text),xa,xk] 98)) W.heap.size s n kv xa xk:=
 ⟨by simp,by simp[go_sem],by simp[go_sem],by simp[go_sem],by simp[go_sem],by simp[go_sem],by simp[go_sem],by simp[go_sem],fun i _=>by simp[go_sem]⟩
theorem k7_zero (W:World):K7 (W.alloc (.cells #[.string ⟨#[]⟩,.slice none 0 0,.int .i64 0,.string ⟨#[]⟩,.string ⟨#[]⟩,.slice none 0 0,.slice none 0 0] 98)) W.heap.size noStep zeroN (.slice none 0 0) (.slice none 0 0) (.slice none 0 0):=k7_box W noStep zeroN _ _ _
theorem load_keyed {W:World} {b:Nat} {s:Step} {n:Node} {kv xa xk:Value} (h:K7 W b s n kv xa xk):(loadVar 98 ⟨b,0,none⟩).run Tryz.prog W= .ok (keyedV s n kv xa xk) W:=by
 have c0:=h.c0;have c1:=h.c1;have c2:=h.c2;have c3:=h.c3;have c4:=h.c4;have c5:=h.c5;have c6:=h.c6
 unfold keyedV
 go_simp
def st7 (W:World) (b:Nat) (s:Step) (n:Node) (kv xa xk:Value):World:=((((((W.setCell ⟨b,0,none⟩ (.string (bs s.n))).setCell ⟨b,1,none⟩ kv).setCell ⟨b,2,none⟩ (.int .i64 n.kind)).setCell ⟨b,3,none⟩ (.string (bs n.name))).setCell ⟨b,4,none⟩ (.string (bs n.text))).setCell ⟨b,5,none⟩ xa).setCell ⟨b,6,none⟩ xk
theorem K7.put {W:World} {b:Nat} {s t:Step} {n m:Node} {kv xa xk lv ya yk:Value} (h:K7 W b s n kv xa xk):K7 (st7 W b t m lv ya yk) b t m lv ya yk:=by
 have lt:=h.lt
 have c0:=h.c0;have c1:=h.c1;have c2:=h.c2;have c3:=h.c3;have c4:=h.c4;have c5:=h.c5;have c6:=h.c6
 unfold st7
 exact⟨by simpa using lt,by simp[go_sem, *],by simp[go_sem, *],by simp[go_sem, *],by simp[go_sem, *],by simp[go_sem, *],by simp[go_sem, *],by simp[go_sem, *],fun i hi=>by have:=h.fz i hi;simp[go_sem, *]⟩
theorem _root_.Go.Proofs.YY.Ext7 {a W:World} {b:Nat} (h:Ext a W) (hb:a.heap.size≤b) (s:Step) (n:Node) (kv xa xk:Value):Ext a (st7 W b s n kv xa xk):=
 ((((((h.set (p:=⟨b,0,none⟩) hb _).set (p:=⟨b,1,none⟩) hb _).set (p:=⟨b,2,none⟩) hb _).set (p:=⟨b,3,none⟩) hb _).set (p:=⟨b,4,none⟩) hb _).set (p:=⟨b,5,none⟩) hb _).set (p:=⟨b,6,none⟩) hb _
theorem st7_block (W:World) (b:Nat) (s:Step) (n:Node) (kv xa xk:Value) {k:Nat} (h:k≠b):(st7 W b s n kv xa xk).heap[k]? =W.heap[k]? :=by
 unfold st7
 iterate 7 rw[Below.heap_setCell _ _ _ _ (by simpa using h)]
theorem set_out (w:World) (p:Addr) (u:Value):(w.setCell p u).os=w.os∧(w.setCell p u).tape=w.tape∧(w.setCell p u).output=w.output:=⟨rfl,rfl,rfl⟩
theorem st7_out (W:World) (b:Nat) (s:Step) (n:Node) (kv xa xk:Value):(st7 W b s n kv xa xk).os=W.os∧(st7 W b s n kv xa xk).tape=W.tape∧(st7 W b s n kv xa xk).output=W.output:=by
 unfold st7
 simp only[(set_out _ _ _).1,(set_out _ _ _).2.1,(set_out _ _ _).2.2,and_self]
theorem st7_size (W:World) (b:Nat) (s:Step) (n:Node) (kv xa xk:Value):(st7 W b s n kv xa xk).heap.size=W.heap.size:=by unfold st7;simp
theorem _root_.Go.RowKit.Below.ext7 {a W:World} {b:Nat} (h:Ext a W) (hb:a.heap.size≤b) (s:Step) (n:Node) (kv xa xk:Value):Ext a (st7 W b s n kv xa xk):=YY.Ext7 h hb s n kv xa xk
theorem ErrV.low {w:World} {b b':Nat} {c a:Int} {v:Value} (h:ErrV w b c a v) (hb:b'≤b):ErrV w b' c a v:=by
 obtain⟨b1,b2,f0,f1,f2,f3,f4,f5,f6,f7⟩:=h
 exact⟨b1,b2,f0,f1,f2,f3,f4,f5,by omega,by omega⟩
theorem Exc.st7 {g:Nat} {a w:World} (h:Exc g a w) {b:Nat} (hb:a.heap.size≤b) (s:Step) (n:Node) (kv xa xk:Value):Exc g a (st7 w b s n kv xa xk):=
 ⟨by rw[st7_size];exact h.1,fun x h1 h2=>by rw[st7_block _ _ _ _ _ _ _ (by omega)];exact h.2 x h1 h2,(st7_out w b s n kv xa xk).1.trans h.3.1,(st7_out w b s n kv xa xk).2.1.trans h.3.2.1,(st7_out w b s n kv xa xk).2.2.trans h.3.2.2⟩
theorem ErrV.kept7 {w:World} {lo:Nat} {c a:Int} {v:Value} (h:ErrV w lo c a v) {b:Nat} (hb:b< lo) {s:Step} {n:Node} {kv xa xk:Value}:ErrV (st7 w b s n kv xa xk) lo c a v:=
 h.exc hb ⟨by rw[st7_size];exact Nat.le_refl _,fun x hx _=>st7_block _ _ _ _ _ _ _ hx,st7_out w b s n kv xa xk⟩
def elP (l:List Rule) (n:Node) (path:List Bytes) (first:Int):(Int×Int) ⊕ Node:=if(normN l n path first).2.1=0 then .inr (normN l n path first).1 else .inl (normN l n path first).2
def zeroNV:Value:= .agg #[.int .i64 0,.string ⟨#[]⟩,.string ⟨#[]⟩,.slice none 0 0,.slice none 0 0]
def ElR (W:World) (g:Nat) (lv:Value) (r:(Int×Int) ⊕ Node) (nx:Int) (e:Ending) (w':World):Prop:=Exc g W w'∧match r with
 | .inl c=>∃v,e= .returned (.tuple #[zeroNV,v])∧ErrV w' W.heap.size c.1 c.2 v
 | .inr n=>FB w' g lv nx∧∃xa xk,e= .returned (.tuple #[.agg #[.int .i64 n.kind,.string (bs n.name),.string (bs n.text),xa,xk],.nilIface])∧Rep w' (fun b=>W.heap.size≤b) xa (attrsD n.attrs)∧Rep w' (fun b=>W.heap.size≤b) xk (nodesD n.kids)
def ChR (W:World) (g:Nat) (lv:Value) (r:(Int×Int) ⊕ (Step×Node)) (nx:Int) (e:Ending) (w':World):Prop:=Exc g W w'∧match r with
 | .inl c=>∃v,e= .returned (.tuple #[zeroK,v])∧ErrV w' W.heap.size c.1 c.2 v
 | .inr x=>FB w' g lv nx∧∃kv xa xk,e= .returned (.tuple #[keyedV x.1 x.2 kv xa xk,.nilIface])∧Rep w' (fun b=>W.heap.size≤b) kv (strsD x.1.key)∧Rep w' (fun b=>W.heap.size≤b) xa (attrsD x.2.attrs)∧Rep w' (fun b=>W.heap.size≤b) xk (nodesD x.2.kids)
def RulesN (l:List Rule):Prop:=∀r∈l,r.path.length≤1048576∧r.keys.length≤1048576∧(∀x∈r.path,x.length≤1048576)∧(∀x∈r.keys,x.length≤1048576)∧r.path≠ []
structure FH (l:List Rule) (n:Node) (path:List Bytes) (W:World) (g:Nat) (lv vp va vk:Value) (at':Int) (p q s:Nat→Prop):Prop where
 cnt:cntN n≤1048576
 nd:ndN n
 rb:RulesN l
 pl:path.length+nsz n≤4194304
 pb:∀x∈path,x.length≤9223372036854775807
 en:EN W
 fb:FB W g lv at'
 hl:Rep W q lv (rulesD l)
 hp:Rep W s vp (strsD path)
 ha:Rep W p va (attrsD n.attrs)
 hk:Rep W p vk (nodesD n.kids)
 pg:∀b,p b→b≠g
 qg:∀b,q b→b≠g
 sg:∀b,s b→b≠g
 gE:∀W',Exc g W W'→EN W'
theorem FH.ext {l:List Rule} {n:Node} {path:List Bytes} {W W':World} {g:Nat} {lv vp va vk:Value} {at':Int} {p q s:Nat→Prop} (h:FH l n path W g lv vp va vk at' p q s) (hE:Ext W W'):FH l n path W' g lv vp va vk at' p q s:=
 {h with
  en:=h.en.ext hE
  fb:=h.fb.ext hE
  hl:=h.hl.ext hE
  hp:=h.hp.ext hE
  ha:=h.ha.ext hE
  hk:=h.hk.ext hE
  gE:=fun X hX=>h.gE X (YY.Exc.trans' ((Exc.refl g W).ext hE) hX)}
theorem findS_lt (path:List Bytes):∀(l:List Rule) (i:Nat),0≤findS path l i→findS path l i< i+l.length
 | [],i,h=>by unfold findS at h;omega
 | r::l,i,h=>by
  unfold findS at h⊢
  rw[List.length_cons]
  split
  ·
   omega
  ·
   rename_i hne
   rw[if_neg hne]at h
   have:=findS_lt path l (i+1) h
   omega
def ElemP (l:List Rule) (N:Nat):Prop:=∀(n:Node) (path:List Bytes) (W:World) (g:Nat) (lv vp va vk:Value) (at':Int) (p q s:Nat→Prop),nsz n< N→n.kind=1→0≤at'→at'+elemsN n≤4194304→FH l n path W g lv vp va vk at' p q s→
 Calls Tryz.prog 21 #[.pointer (some ⟨g,0,none⟩),.agg #[.int .i64 n.kind,.string (bs n.name),.string (bs n.text),va,vk],vp] W fun e w'=>ElR W g lv (elP l n path at') (at'+elemsN n) e w'
def KyQ (W w':World) (r:(Int×Int) ⊕ List Bytes) (ka:Option Addr) (kn kc:Nat) (ev:Value):Prop:=match r with
 | .inl c=>ErrV w' W.heap.size c.1 c.2 ev
 | .inr k=>ev= .nilIface∧kn=k.length∧Rep w' (fun b=>W.heap.size≤b) (.slice ka kn kc) (strsD k)
theorem child_step (l:List Rule) (N:Nat) (ih:ElemP l N) (k:Node) (path:List Bytes) (W:World) (g:Nat) (lv vp va vk:Value) (at':Int) (p q s:Nat→Prop) (hN:nsz k< N) (hk1:k.kind=1) (hat0:0≤at') (hat1:at'+elemsN k≤4194304) (H:FH l k path W g lv vp va vk at' p q s):
  Calls Tryz.prog 91 #[.pointer (some ⟨g,0,none⟩),.agg #[.int .i64 k.kind,.string (bs k.name),.string (bs k.text),va,vk],vp] W fun e w'=>ChR W g lv (childP l k path at') (at'+elemsN k) e w':=by
 obtain⟨la,lc,rfl,hlc1,hlc2⟩:=H.hl.count z_rule (by omega)
 obtain⟨pa,pc,rfl,hpc1,hpc2⟩:=H.hp.count z_str (by omega)
 obtain⟨ba,ca,rfl,_,_⟩:=H.ha.count z_attr (by omega)
 obtain⟨bk,ck,rfl,_,_⟩:=H.hk.count z_node (by omega)
 obtain⟨R,hR⟩:∃R,childP l k path at'=R:=⟨_,rfl⟩
 rw[hR]
 unfold childP at hR
 obtain⟨w1,hw1⟩:∃X,(W.alloc (.cells #[.int .i64 k.kind,.string (bs k.name),.string (bs k.text),.slice ba k.attrs.length ca,.slice bk k.kids.length ck] 26)).alloc (.cells #[.string ⟨#[]⟩,.slice none 0 0,.int .i64 0,.string ⟨#[]⟩,.string ⟨#[]⟩,.slice none 0 0,.slice none 0 0] 98)=X:=⟨_,rfl⟩
 obtain⟨gk,hgk⟩:∃x,W.heap.size=x:=⟨_,rfl⟩
 obtain⟨gr,hgr⟩:∃x,gk+1=x:=⟨_,rfl⟩
 have hE1:Ext W w1:=by rw[←hw1];exact((Ext.refl W).alloc _).alloc _
 have hb1:B5 w1 gk k (.slice ba k.attrs.length ca) (.slice bk k.kids.length ck):=by rw[←hw1,←hgk];exact(b5_box W k _ _).ext ((Ext.refl _).alloc _)
 have hk1':K7 w1 gr noStep zeroN (.slice none 0 0) (.slice none 0 0) (.slice none 0 0):=by
  rw[←hw1,←hgr,←hgk]
  have:=k7_zero (W.alloc (.cells #[.int .i64 k.kind,.string (bs k.name),.string (bs k.text),.slice ba k.attrs.length ca,.slice bk k.kids.length ck] 26))
  simpa using this
 have hsz1:w1.heap.size=gr+1:=by rw[←hw1];simp;omega
 have H1:=H.ext hE1
 have r0:=H1.fb.c0;have r1:=H1.fb.c1
 have hgW:=H.fb.lt
 have HFK:=Lh (findK_any q s l path _ _ w1 (fun r hr=>by have:=H.rb r hr;omega) H1.hl H1.hp)
 obtain⟨F,hF⟩:∃F,decide (0≤findS path l 0)=F:=⟨_,rfl⟩
 obtain⟨rr,hrr⟩:∃r,ruleR path l=r:=⟨_,rfl⟩
 rw[hF,hrr]at HFK
 have HH:=Lh (show _∧_∧_∧_∧_ from And.intro H (And.intro hN (And.intro hk1 (And.intro hat0 hat1))))
 have HG:=Lh (show gk=W.heap.size∧gr=gk+1∧w1.heap.size=gr+1∧g< gk∧Ext W w1∧B5 w1 gk k (.slice ba k.attrs.length ca) (.slice bk k.kids.length ck)∧K7 w1 gr noStep zeroN (.slice none 0 0) (.slice none 0 0) (.slice none 0 0) from⟨hgk.symm,hgr.symm,hsz1,by omega,hE1,hb1,hk1'⟩)
 have HFR:=Lh (And.intro hF (And.intro hrr hR))
 have HW:=Lh (And.intro hw1 (And.intro hgk hgr))
 have hpl:path.length≤4194304:=by have:=H.pl;omega
 have hll:l.length≤9223372036854775807:=by omega
 clear hF hrr hR hw1 hgk hgr hE1 hb1 hk1' hsz1 H1 H hN hk1 hgW hat0 hat1
 go_enter Tryz.func91,Tryz.ntmps91
 go_upto_region 1 with fail
 rw[HW.out.1,HW.out.2.1,HW.out.2.2]
 go_wp2_with fail
 refine HFK.out.mono ?_
 rintro e w2 ⟨⟨ua,uk,rfl,hua,huk⟩,hB2⟩
 obtain⟨ka,kc,rfl,hkc1,hkc2⟩:=huk.count z_str (by omega)
 obtain⟨pa2,pc2,rfl,_,_⟩:=hua.count z_str (by omega)
 obtain⟨w3,hw3⟩:∃X,w2.alloc (.cells #[.slice pa2 rr.path.length pc2,.slice ka rr.keys.length kc] 53)=X:=⟨_,rfl⟩
 have hE3:Ext w1 w3:=by rw[←hw3];exact hB2.alloc _
 have HE3:=Lh hE3
 have HW3:=Lh hw3
 have hk3:=HG.out.2.2.2.2.2.2.ext hE3
 clear HFK hua huk hB2 hw3 r0 r1
 go_upto_region 3 with fail
 rw[HW3.out]
 have hs3:=hE3.size
 cases F with
 | false=>
  have HN:Hid (R= .inl (24,at')):=Lh (by rw[←HFR.out.2.2,if_pos (by have:=of_decide_eq_false HFR.out.1;omega)])
  have HFA:=Lh (fail_any 24 at' (by decide) w3)
  have HK3:=Lh hk3
  clear hk3 hE3
  go_wp2_with fail
  refine HFA.out.mono ?_
  rintro e w4 ⟨⟨v,rfl,hv⟩,hB4⟩
  have hk4:=HK3.out.ext hB4
  have hXz:Exc g W w4:=(Exc.refl g W).ext ((HG.out.2.2.2.2.1.trans HE3.out).trans hB4)
  obtain⟨b1,b2,rfl,hv⟩:=hv
  replace hv:ErrV w4 _ _ _ _:=⟨b1,b2,rfl,hv⟩
  obtain⟨u0,z0⟩:∃u,w4.cell? ⟨gr,0,none⟩=some u:=⟨_,hk4.c0⟩
  obtain⟨u1,z1⟩:∃u,w4.cell? ⟨gr,1,none⟩=some u:=⟨_,hk4.c1⟩
  obtain⟨u2,z2⟩:∃u,w4.cell? ⟨gr,2,none⟩=some u:=⟨_,hk4.c2⟩
  obtain⟨u3,z3⟩:∃u,w4.cell? ⟨gr,3,none⟩=some u:=⟨_,hk4.c3⟩
  obtain⟨u4,z4⟩:∃u,w4.cell? ⟨gr,4,none⟩=some u:=⟨_,hk4.c4⟩
  obtain⟨u5,z5⟩:∃u,w4.cell? ⟨gr,5,none⟩=some u:=⟨_,hk4.c5⟩
  obtain⟨u6,z6⟩:∃u,w4.cell? ⟨gr,6,none⟩=some u:=⟨_,hk4.c6⟩
  have y0:=hk4.fz 0 (by omega);have y1:=hk4.fz 1 (by omega);have y2:=hk4.fz 2 (by omega);have y3:=hk4.fz 3 (by omega);have y4:=hk4.fz 4 (by omega);have y5:=hk4.fz 5 (by omega);have y6:=hk4.fz 6 (by omega)
  have HP:=Lh (show K7 ((((((((w4).setCell ⟨gr,0,none⟩ (.string ⟨#[]⟩)).setCell ⟨gr,1,none⟩ (.slice none 0 0)).setCell ⟨gr,2,none⟩ (.int .i64 0)).setCell ⟨gr,3,none⟩ (.string ⟨#[]⟩)).setCell ⟨gr,4,none⟩ (.string ⟨#[]⟩)).setCell ⟨gr,5,none⟩ (.slice none 0 0)).setCell ⟨gr,6,none⟩ (.slice none 0 0)) gr noStep zeroN (.slice none 0 0) (.slice none 0 0) (.slice none 0 0)∧Exc g W ((((((((w4).setCell ⟨gr,0,none⟩ (.string ⟨#[]⟩)).setCell ⟨gr,1,none⟩ (.slice none 0 0)).setCell ⟨gr,2,none⟩ (.int .i64 0)).setCell ⟨gr,3,none⟩ (.string ⟨#[]⟩)).setCell ⟨gr,4,none⟩ (.string ⟨#[]⟩)).setCell ⟨gr,5,none⟩ (.slice none 0 0)).setCell ⟨gr,6,none⟩ (.slice none 0 0))∧ErrV ((((((((w4).setCell ⟨gr,0,none⟩ (.string ⟨#[]⟩)).setCell ⟨gr,1,none⟩ (.slice none 0 0)).setCell ⟨gr,2,none⟩ (.int .i64 0)).setCell ⟨gr,3,none⟩ (.string ⟨#[]⟩)).setCell ⟨gr,4,none⟩ (.string ⟨#[]⟩)).setCell ⟨gr,5,none⟩ (.slice none 0 0)).setCell ⟨gr,6,none⟩ (.slice none 0 0)) W.heap.size 24 at' (.iface 116 (.pointer (some ⟨b1,0,none⟩))) from⟨hk4.put (t:=noStep) (m:=zeroN) (lv:= .slice none 0 0) (ya:= .slice none 0 0) (yk:= .slice none 0 0),hXz.st7 (by have:=HG.out;omega) noStep zeroN (.slice none 0 0) (.slice none 0 0) (.slice none 0 0),(hv.kept7 (by have:=HG.out;omega) (s:=noStep) (n:=zeroN) (kv:= .slice none 0 0) (xa:= .slice none 0 0) (xk:= .slice none 0 0)).low (by have:=HG.out;omega)⟩)
  clear hk4 hXz hv
  go_wp2_with fail
  refine bodyPost_ret (res_node rfl _ _ _ ⟨gr,0,none⟩ ?_ (load_keyed HP.out.1)) rfl ?_
  ·
   rfl
  rw[HN.out]
  exact⟨HP.out.2.1,_,rfl,HP.out.2.2⟩
 | true=>
  have HIH:=Lh (ih k path w3 g _ _ _ _ at' p q s HH.out.2.1 HH.out.2.2.1 HH.out.2.2.2.1 HH.out.2.2.2.2 (HH.out.1.ext (HG.out.2.2.2.2.1.trans HE3.out)))
  have hfp:¬findS path l 0< 0:=by have:=of_decide_eq_true HFR.out.1;omega
  have HR1:Hid ((if(normN l k path at').2.1≠0 then .inl (normN l k path at').2 else match keyS (normN l k path at').1 rr.keys with
   | none=> .inl (22,at')
   | some key=> .inr (⟨k.name,key⟩,(normN l k path at').1))=R):=Lh (by
    rw[←HFR.out.2.2,if_neg hfp,←HFR.out.2.1]
    unfold ruleR
    rw[if_neg hfp]
    rfl)
  have hcm:=cnt_normN l k path at'
  have hrk:rr.keys.length≤1048576∧∀x∈rr.keys,x.length≤1048576:=by
   rw[←HFR.out.2.1]
   unfold ruleR
   rw[if_neg hfp]
   have hlt:=findS_lt path l 0 (by omega)
   rw[List.getD_eq_getElem?_getD,List.getElem?_eq_getElem (by omega)]
   have:=HH.out.1.rb _ (List.getElem_mem (show(findS path l 0).toNat< l.length by omega))
   exact⟨this.2.1,this.2.2.2.1⟩
  have HRK:=Lh (And.intro hrk hfp)
  by_cases hc0:(normN l k path at').2.1=0
  ·
   have hel:elP l k path at'= .inr (normN l k path at').1:=by unfold elP;rw[if_pos hc0]
   rw[hel]at HIH
   have HR2:Hid ((match keyS (normN l k path at').1 rr.keys with
    | none=> .inl (22,at')
    | some key=> .inr (⟨k.name,key⟩,(normN l k path at').1))=R):=Lh (by rw[←HR1.out,if_neg (by simpa using hc0)])
   obtain⟨m,hm⟩:∃m,(normN l k path at').1=m:=⟨_,rfl⟩
   rw[hm]at HIH HR2 hcm
   have hcm2:cntN m≤1048576:=by have:=HH.out.1.cnt;omega
   have HCM:=Lh hcm2
   have HK3:=Lh hk3
   have hbk3:=HG.out.2.2.2.2.2.1.ext HE3.out
   have n0:=hbk3.c0;have n1:=hbk3.c1;have n2:=hbk3.c2;have n3:=hbk3.c3;have n4:=hbk3.c4
   clear HR1 hc0 hel hm hcm hrk hfp hk3 hE3
   go_wp2_with fail
   refine HIH.out.mono ?_
   rintro e w4 ⟨hX4,hF4,xa,xk,rfl,hxa,hxk⟩
   obtain⟨xaa,xac,rfl,_,_⟩:=hxa.count z_attr (by omega)
   obtain⟨xka,xkc,rfl,_,_⟩:=hxk.count z_node (by omega)
   clear n0 n1 n2 n3 n4 hbk3
   have hgg:gr≠g∧gk≠g:=by have:=HG.out;omega
   have hk4:=HK3.out.block hX4.1 (hX4.2 gr hgg.1 HK3.out.lt)
   have hbk4:=(HG.out.2.2.2.2.2.1.ext HE3.out).exc hgg.2 hX4
   obtain⟨w5,hw5⟩:∃X,w4.alloc (.cells #[.int .i64 m.kind,.string (bs m.name),.string (bs m.text),.slice xaa m.attrs.length xac,.slice xka m.kids.length xkc] 26)=X:=⟨_,rfl⟩
   obtain⟨gn,hgn⟩:∃x,w4.heap.size=x:=⟨_,rfl⟩
   have hE5:Ext w4 w5:=by rw[←hw5];exact(Ext.refl w4).alloc _
   have hb5:B5 w5 gn m (.slice xaa m.attrs.length xac) (.slice xka m.kids.length xkc):=by rw[←hw5,←hgn];exact b5_box w4 m _ _
   have hX5:Exc g W w5:=(YY.Exc.trans' ((Exc.refl g W).ext (HG.out.2.2.2.2.1.trans HE3.out)) hX4).ext hE5
   have h5:=HH.out.1
   have hl5:=h5.hl.exc h5.qg hX5
   have hp5:=h5.hp.exc h5.sg hX5
   have hen5:=h5.gE w5 hX5
   have HKY:Hid (∀X,Ext w5 X→Calls Tryz.prog 133 #[.slice la l.length lc,.slice pa path.length pc,.agg #[.int .i64 m.kind,.string (bs m.name),.string (bs m.text),.slice xaa m.attrs.length xac,.slice xka m.kids.length xkc]] X fun e w'=>∃(ka:Option Addr) (kn kc:Nat) (ev:Value),e= .returned (.tuple #[.slice ka kn kc,ev])∧KyQ X w' (keyP l path m) ka kn kc ev∧Ext X w'):=Lh fun X hE=>by
    refine(key_any l path m (fun b=>w3.heap.size≤b) q s _ _ _ _ X HCM.out (hen5.ext hE).mx (fun r hr=>by have:=h5.rb r hr;omega) (by rw[HFR.out.2.1];exact HRK.out.1.1) (by rw[HFR.out.2.1];exact HRK.out.1.2) (hl5.ext hE) (hp5.ext hE) (hxa.ext (hE5.trans hE)) (hxk.ext (hE5.trans hE))).mono ?_
    rintro e w' ⟨hq,hB⟩
    unfold KeyV at hq
    unfold KyQ
    cases hkp:keyP l path m with
    | inl c=>
     rw[hkp]at hq
     obtain⟨v,rfl,hv⟩:=hq
     exact⟨none,0,0,v,rfl,hv,hB⟩
    | inr key=>
     rw[hkp]at hq
     obtain⟨v,rfl,hv⟩:=hq
     obtain⟨a,c,rfl,_,_⟩:=hv.count z_str (by omega)
     exact⟨a,_,c,_,rfl,⟨rfl,rfl,hv⟩,hB⟩
   have hky:keyP l path m=match keyS m rr.keys with | none=> .inl (22,0) | some key=> .inr key:=by
    unfold keyP
    rw[if_neg (by have:=HRK.out.2;omega),HFR.out.2.1]
    rfl
   have HR3:Hid (R=match keyP l path m with | .inl _=> .inl (22,at') | .inr key=> .inr (⟨k.name,key⟩,m)):=Lh (by
    rw[←HR2.out,hky]
    cases keyS m rr.keys<;> rfl)
   obtain⟨ky,hkyy⟩:∃y,keyP l path m=y:=⟨_,rfl⟩
   rw[hkyy]at HKY HR3
   have hF5:=hF4.ext hE5
   have r0:=hF5.c0
   have lg:=hF5.lt
   have ln:=hb5.lt
   have m0:=hb5.c0;have m1:=hb5.c1;have m2:=hb5.c2;have m3:=hb5.c3;have m4:=hb5.c4
   have t1:=(hF5.c1)
   have HS5:=Lh (show Exc g W w5∧FB w5 g (.slice la l.length lc) (at'+elemsN k)∧Rep w5 (fun b=>w3.heap.size≤b) (.slice xaa m.attrs.length xac) (attrsD m.attrs)∧Rep w5 (fun b=>w3.heap.size≤b) (.slice xka m.kids.length xkc) (nodesD m.kids)∧K7 w5 gr noStep zeroN (.slice none 0 0) (.slice none 0 0) (.slice none 0 0)∧B5 w5 gk k (.slice ba k.attrs.length ca) (.slice bk k.kids.length ck)∧w3.heap.size≤w5.heap.size from⟨hX5,hF5,hxa.ext hE5,hxk.ext hE5,hk4.ext hE5,hbk4.ext hE5,by have:=hX4.1;have:=hE5.size;omega⟩)
   have HW5:=Lh (And.intro hw5 hgn)
   have HBN:=Lh hb5
   clear HIH hX4 hF4 hxa hxk hgg hk4 hbk4 hw5 hgn hE5 hb5 hX5 hl5 hp5 hen5 hky hkyy h5 HR2 hcm2 hF5 t1
   go_upto_region 8 with fail
   rw[HW5.out.1,HW5.out.2]
   refine rg_begin (S:=Sx w5) (by kernel_rfl) (Sx.begin _) ?_
   have hSk:Sx w5 (World.drew w5):=(Sx.begin _)
   refine rg_t 0 (some 44) (.pointer (some ⟨g,0,none⟩)) rfl hSk (fun w' hs=>by rfl) ?_
   simp only[Act.put,sA,sZ,sS]
   refine rg_t 1 (some 45) (.pointer (some ⟨g,0,none⟩)) rfl hSk (fun w' hs=>by first | rfl | go_simp) ?_
   simp only[Act.put,sA,sZ,sS]
   refine rg_t 2 (some 46) (.pointer (some ⟨g,0,none⟩)) rfl hSk (fun w' hs=>by first | rfl | go_simp) ?_
   simp only[Act.put,sA,sZ,sS]
   refine rg_t 3 (some 47) (.slice la l.length lc) rfl hSk (fun w' hs=>by(have h0:=hs.cell lg r0;go_simp)) ?_
   simp only[Act.put,sA,sZ,sS]
   refine rg_t 4 (some 48) (.slice pa path.length pc) rfl hSk (fun w' hs=>by rfl) ?_
   simp only[Act.put,sA,sZ,sS]
   refine rg_t 5 (some 49) (.agg #[.int .i64 m.kind,.string (bs m.name),.string (bs m.text),.slice xaa m.attrs.length xac,.slice xka m.kids.length xkc]) rfl hSk (fun w' hs=>by(have h0:=hs.cell ln m0;have h1:=hs.cell ln m1;have h2:=hs.cell ln m2;have h3:=hs.cell ln m3;have h4:=hs.cell ln m4;go_simp)) ?_
   simp only[Act.put,sA,sZ,sS]
   refine rg_call 6 (some 50) 133 #[.slice la l.length lc,.slice pa path.length pc,.agg #[.int .i64 m.kind,.string (bs m.name),.string (bs m.text),.slice xaa m.attrs.length xac,.slice xka m.kids.length xkc]] rfl rfl (by kernel_rfl) (by rfl) (fun w'=>by first | rfl | go_simp) (R:=fun v w'=>∃(ka:Option Addr) (kn kc:Nat) (ev:Value),v= .tuple #[.slice ka kn kc,ev]∧KyQ (World.drew w5) w' ky ka kn kc ev∧Ext (World.drew w5) w') ?_ ?_
   ·
    refine(HKY.out (World.drew w5) hSk).mono ?_
    rintro e w' ⟨ka,kn,kc,ev,rfl,hq,hB⟩
    exact⟨_,rfl,ka,kn,kc,ev,rfl,hq,hB⟩
   rintro _ wrk1 ⟨ka,kn,kc,ev,rfl,hq,hBrk1⟩
   have hSk1:=hSk.ext hBrk1
   refine⟨hSk1,?_⟩
   simp only[Act.put,sA,sZ,sS]
   refine rg_t 7 (some 43) (.tuple #[.slice ka kn kc,ev]) rfl hSk1 (fun w' hs=>by rfl) ?_
   simp only[Act.put,sA,sZ,sS]
   refine rg_t 8 (some 51) (.slice ka kn kc) rfl hSk1 (fun w' hs=>by first | rfl | go_simp) ?_
   simp only[Act.put,sA,sZ,sS]
   refine rg_t 9 (some 52) (ev) rfl hSk1 (fun w' hs=>by first | rfl | go_simp) ?_
   simp only[Act.put,sA,sZ,sS]
   refine rg_t 10 (some 13) (.slice ka kn kc) rfl hSk1 (fun w' hs=>by rfl) ?_
   simp only[Act.put,sA,sZ,sS]
   refine rg_t 11 (some 12) (ev) rfl hSk1 (fun w' hs=>by rfl) ?_
   simp only[Act.put,sA,sZ,sS]
   refine rg_done (by kernel_rfl) ?_
   have hk6:=HS5.out.2.2.2.2.1.ext hSk1
   have hXz:Exc g W wrk1:=HS5.out.1.ext hSk1
   have hF6:=HS5.out.2.1.ext hSk1
   have hbk6:=HS5.out.2.2.2.2.2.1.ext hSk1
   have hxa6:=HS5.out.2.2.1.ext hSk1
   have hxk6:=HS5.out.2.2.2.1.ext hSk1
   have hb6:B5 wrk1 gn m (.slice xaa m.attrs.length xac) (.slice xka m.kids.length xkc):=HBN.out.ext hSk1
   clear r0 lg ln m0 m1 m2 m3 m4 HKY
   cases ky with
   | inl c=>
    have HN:Hid (R= .inl (22,at')):=Lh HR3.out
    unfold KyQ at hq
    obtain⟨b1,b2,rfl,hq⟩:=hq
    have HFA:=Lh (fail_any 22 at' (by decide) wrk1)
    have HK6:=Lh (And.intro hk6 hXz)
    clear hk6 hXz hF6 hbk6 hxa6 hxk6 hb6 hq
    go_wp2_with fail
    refine HFA.out.mono ?_
    rintro e w7 ⟨⟨v,rfl,hv⟩,hB7⟩
    have hk4:=HK6.out.1.ext hB7
    have hXz:=HK6.out.2.ext hB7
    have hs6:=hSk1.size
    have hs7:=HS5.out.2.2.2.2.2.2
    obtain⟨b1,b2,rfl,hv⟩:=hv
    replace hv:ErrV w7 _ _ _ _:=⟨b1,b2,rfl,hv⟩
    obtain⟨u0,z0⟩:∃u,w7.cell? ⟨gr,0,none⟩=some u:=⟨_,hk4.c0⟩
    obtain⟨u1,z1⟩:∃u,w7.cell? ⟨gr,1,none⟩=some u:=⟨_,hk4.c1⟩
    obtain⟨u2,z2⟩:∃u,w7.cell? ⟨gr,2,none⟩=some u:=⟨_,hk4.c2⟩
    obtain⟨u3,z3⟩:∃u,w7.cell? ⟨gr,3,none⟩=some u:=⟨_,hk4.c3⟩
    obtain⟨u4,z4⟩:∃u,w7.cell? ⟨gr,4,none⟩=some u:=⟨_,hk4.c4⟩
    obtain⟨u5,z5⟩:∃u,w7.cell? ⟨gr,5,none⟩=some u:=⟨_,hk4.c5⟩
    obtain⟨u6,z6⟩:∃u,w7.cell? ⟨gr,6,none⟩=some u:=⟨_,hk4.c6⟩
    have y0:=hk4.fz 0 (by omega);have y1:=hk4.fz 1 (by omega);have y2:=hk4.fz 2 (by omega);have y3:=hk4.fz 3 (by omega);have y4:=hk4.fz 4 (by omega);have y5:=hk4.fz 5 (by omega);have y6:=hk4.fz 6 (by omega)
    have HP:=Lh (show K7 ((((((((w7).setCell ⟨gr,0,none⟩ (.string ⟨#[]⟩)).setCell ⟨gr,1,none⟩ (.slice none 0 0)).setCell ⟨gr,2,none⟩ (.int .i64 0)).setCell ⟨gr,3,none⟩ (.string ⟨#[]⟩)).setCell ⟨gr,4,none⟩ (.string ⟨#[]⟩)).setCell ⟨gr,5,none⟩ (.slice none 0 0)).setCell ⟨gr,6,none⟩ (.slice none 0 0)) gr noStep zeroN (.slice none 0 0) (.slice none 0 0) (.slice none 0 0)∧Exc g W ((((((((w7).setCell ⟨gr,0,none⟩ (.string ⟨#[]⟩)).setCell ⟨gr,1,none⟩ (.slice none 0 0)).setCell ⟨gr,2,none⟩ (.int .i64 0)).setCell ⟨gr,3,none⟩ (.string ⟨#[]⟩)).setCell ⟨gr,4,none⟩ (.string ⟨#[]⟩)).setCell ⟨gr,5,none⟩ (.slice none 0 0)).setCell ⟨gr,6,none⟩ (.slice none 0 0))∧ErrV ((((((((w7).setCell ⟨gr,0,none⟩ (.string ⟨#[]⟩)).setCell ⟨gr,1,none⟩ (.slice none 0 0)).setCell ⟨gr,2,none⟩ (.int .i64 0)).setCell ⟨gr,3,none⟩ (.string ⟨#[]⟩)).setCell ⟨gr,4,none⟩ (.string ⟨#[]⟩)).setCell ⟨gr,5,none⟩ (.slice none 0 0)).setCell ⟨gr,6,none⟩ (.slice none 0 0)) W.heap.size 22 at' (.iface 116 (.pointer (some ⟨b1,0,none⟩))) from⟨hk4.put (t:=noStep) (m:=zeroN) (lv:= .slice none 0 0) (ya:= .slice none 0 0) (yk:= .slice none 0 0),hXz.st7 (by have:=HG.out;omega) noStep zeroN (.slice none 0 0) (.slice none 0 0) (.slice none 0 0),(hv.kept7 (by have:=HG.out;omega) (s:=noStep) (n:=zeroN) (kv:= .slice none 0 0) (xa:= .slice none 0 0) (xk:= .slice none 0 0)).low (by have:=HG.out;omega)⟩)
    clear hk4 hXz hv
    go_wp2_with fail
    refine bodyPost_ret (res_node rfl _ _ _ ⟨gr,0,none⟩ ?_ (load_keyed HP.out.1)) rfl ?_
    ·
     rfl
    rw[HN.out]
    exact⟨HP.out.2.1,_,rfl,HP.out.2.2⟩
   | inr key=>
    have HN:Hid (R= .inr (⟨k.name,key⟩,m)):=Lh HR3.out
    obtain⟨rfl,rfl,hkey⟩:=hq
    obtain⟨u0,z0⟩:∃u,wrk1.cell? ⟨gr,0,none⟩=some u:=⟨_,hk6.c0⟩
    obtain⟨u1,z1⟩:∃u,wrk1.cell? ⟨gr,1,none⟩=some u:=⟨_,hk6.c1⟩
    obtain⟨u2,z2⟩:∃u,wrk1.cell? ⟨gr,2,none⟩=some u:=⟨_,hk6.c2⟩
    obtain⟨u3,z3⟩:∃u,wrk1.cell? ⟨gr,3,none⟩=some u:=⟨_,hk6.c3⟩
    obtain⟨u4,z4⟩:∃u,wrk1.cell? ⟨gr,4,none⟩=some u:=⟨_,hk6.c4⟩
    obtain⟨u5,z5⟩:∃u,wrk1.cell? ⟨gr,5,none⟩=some u:=⟨_,hk6.c5⟩
    obtain⟨u6,z6⟩:∃u,wrk1.cell? ⟨gr,6,none⟩=some u:=⟨_,hk6.c6⟩
    have y0:=hk6.fz 0 (by omega);have y1:=hk6.fz 1 (by omega);have y2:=hk6.fz 2 (by omega);have y3:=hk6.fz 3 (by omega);have y4:=hk6.fz 4 (by omega);have y5:=hk6.fz 5 (by omega);have y6:=hk6.fz 6 (by omega)
    have m0:=hb6.c0;have m1:=hb6.c1;have m2:=hb6.c2;have m3:=hb6.c3;have m4:=hb6.c4
    have n1:=hbk6.c1
    have HP:=Lh (show K7 (st7 wrk1 gr ⟨k.name,key⟩ m (.slice ka key.length kc) (.slice xaa m.attrs.length xac) (.slice xka m.kids.length xkc)) gr ⟨k.name,key⟩ m (.slice ka key.length kc) (.slice xaa m.attrs.length xac) (.slice xka m.kids.length xkc)∧Exc g W (st7 wrk1 gr ⟨k.name,key⟩ m (.slice ka key.length kc) (.slice xaa m.attrs.length xac) (.slice xka m.kids.length xkc))∧FB (st7 wrk1 gr ⟨k.name,key⟩ m (.slice ka key.length kc) (.slice xaa m.attrs.length xac) (.slice xka m.kids.length xkc)) g (.slice la l.length lc) (at'+elemsN k)∧Rep (st7 wrk1 gr ⟨k.name,key⟩ m (.slice ka key.length kc) (.slice xaa m.attrs.length xac) (.slice xka m.kids.length xkc)) (fun b=>W.heap.size≤b) (.slice ka key.length kc) (strsD key)∧Rep (st7 wrk1 gr ⟨k.name,key⟩ m (.slice ka key.length kc) (.slice xaa m.attrs.length xac) (.slice xka m.kids.length xkc)) (fun b=>W.heap.size≤b) (.slice xaa m.attrs.length xac) (attrsD m.attrs)∧Rep (st7 wrk1 gr ⟨k.name,key⟩ m (.slice ka key.length kc) (.slice xaa m.attrs.length xac) (.slice xka m.kids.length xkc)) (fun b=>W.heap.size≤b) (.slice xka m.kids.length xkc) (nodesD m.kids) from by
     have hg:=HG.out
     have hs6:=hSk1.size
     have hs7:=HS5.out.2.2.2.2.2.2
     have hd:(World.drew w5).heap.size=w5.heap.size:=rfl
     have hst:∀b,b≠gr→(st7 wrk1 gr ⟨k.name,key⟩ m (.slice ka key.length kc) (.slice xaa m.attrs.length xac) (.slice xka m.kids.length xkc)).heap[b]? =wrk1.heap[b]? :=fun b hb=>st7_block wrk1 gr ⟨k.name,key⟩ m (.slice ka key.length kc) (.slice xaa m.attrs.length xac) (.slice xka m.kids.length xkc) hb
     refine⟨hk6.put (t:=⟨k.name,key⟩) (m:=m) (lv:= .slice ka key.length kc) (ya:= .slice xaa m.attrs.length xac) (yk:= .slice xka m.kids.length xkc),hXz.st7 (by omega) ⟨k.name,key⟩ m (.slice ka key.length kc) (.slice xaa m.attrs.length xac) (.slice xka m.kids.length xkc),?_,?_,?_,?_⟩
     ·
      exact⟨by rw[st7_size];exact hF6.lt,(World.cell?_of_block (a:=⟨g,0,none⟩) (hst g (by omega))).trans hF6.c0,(World.cell?_of_block (a:=⟨g,1,none⟩) (hst g (by omega))).trans hF6.c1,(World.frozen?_of_block (a:=⟨g,1,none⟩) (hst g (by omega))).trans hF6.f1⟩
     ·
      exact(hkey.kept fun b hb _=>hst b (by have hb':_≤b:=hb;omega)).ok fun b hb=>by have hb':_≤b:=hb;omega
     ·
      exact(hxa6.kept fun b hb _=>hst b (by have hb':_≤b:=hb;omega)).ok fun b hb=>by have hb':_≤b:=hb;omega
     ·
      exact(hxk6.kept fun b hb _=>hst b (by have hb':_≤b:=hb;omega)).ok fun b hb=>by have hb':_≤b:=hb;omega)
    clear hk6 hXz hF6 hbk6 hxa6 hxk6 hb6 hkey
    go_wp2_with fail
    refine bodyPost_ret (res_node rfl _ _ _ ⟨gr,0,none⟩ ?_ (load_keyed HP.out.1)) rfl ?_
    ·
     rfl
    rw[HN.out]
    exact⟨HP.out.2.1,HP.out.2.2.1,_,_,_,rfl,HP.out.2.2.2.1,HP.out.2.2.2.2.1,HP.out.2.2.2.2.2⟩
  ·
   have hel:elP l k path at'= .inl (normN l k path at').2:=by unfold elP;rw[if_neg hc0]
   rw[hel]at HIH
   have HN:Hid (R= .inl (normN l k path at').2):=Lh (by rw[←HR1.out,if_pos hc0])
   obtain⟨cc,hcc⟩:∃c,(normN l k path at').2=c:=⟨_,rfl⟩
   rw[hcc]at HIH HN
   have HK3:=Lh hk3
   have hbk3:=HG.out.2.2.2.2.2.1.ext HE3.out
   have n0:=hbk3.c0;have n1:=hbk3.c1;have n2:=hbk3.c2;have n3:=hbk3.c3;have n4:=hbk3.c4
   clear HR1 hc0 hel hcc hcm hrk hfp hk3 hE3
   go_wp2_with fail
   refine HIH.out.mono ?_
   rintro e w4 ⟨hX4,v,rfl,hv⟩
   have hgg:gr≠g:=by have:=HG.out;omega
   have hk4':=HK3.out.block hX4.1 (hX4.2 gr hgg HK3.out.lt)
   obtain⟨w5,hw5⟩:∃X,w4.alloc (.cells #[.int .i64 0,.string ⟨#[]⟩,.string ⟨#[]⟩,.slice none 0 0,.slice none 0 0] 26)=X:=⟨_,rfl⟩
   have hE5:Ext w4 w5:=by rw[←hw5];exact(Ext.refl w4).alloc _
   have hk4:=hk4'.ext hE5
   have hXz:Exc g W w5:=(YY.Exc.trans' ((Exc.refl g W).ext (HG.out.2.2.2.2.1.trans HE3.out)) hX4).ext hE5
   replace hv:=hv.ext hE5
   have HW5:=Lh hw5
   clear n0 n1 n2 n3 n4 hbk3 HIH hX4 hk4' hE5 hgg hw5
   unfold zeroNV
   obtain⟨b1,b2,rfl,hv⟩:=hv
   replace hv:ErrV w5 _ _ _ _:=⟨b1,b2,rfl,hv⟩
   go_upto_region 6 with fail
   rw[HW5.out]
   obtain⟨u0,z0⟩:∃u,w5.cell? ⟨gr,0,none⟩=some u:=⟨_,hk4.c0⟩
   obtain⟨u1,z1⟩:∃u,w5.cell? ⟨gr,1,none⟩=some u:=⟨_,hk4.c1⟩
   obtain⟨u2,z2⟩:∃u,w5.cell? ⟨gr,2,none⟩=some u:=⟨_,hk4.c2⟩
   obtain⟨u3,z3⟩:∃u,w5.cell? ⟨gr,3,none⟩=some u:=⟨_,hk4.c3⟩
   obtain⟨u4,z4⟩:∃u,w5.cell? ⟨gr,4,none⟩=some u:=⟨_,hk4.c4⟩
   obtain⟨u5,z5⟩:∃u,w5.cell? ⟨gr,5,none⟩=some u:=⟨_,hk4.c5⟩
   obtain⟨u6,z6⟩:∃u,w5.cell? ⟨gr,6,none⟩=some u:=⟨_,hk4.c6⟩
   have y0:=hk4.fz 0 (by omega);have y1:=hk4.fz 1 (by omega);have y2:=hk4.fz 2 (by omega);have y3:=hk4.fz 3 (by omega);have y4:=hk4.fz 4 (by omega);have y5:=hk4.fz 5 (by omega);have y6:=hk4.fz 6 (by omega)
   have HP:=Lh (show K7 ((((((((w5).setCell ⟨gr,0,none⟩ (.string ⟨#[]⟩)).setCell ⟨gr,1,none⟩ (.slice none 0 0)).setCell ⟨gr,2,none⟩ (.int .i64 0)).setCell ⟨gr,3,none⟩ (.string ⟨#[]⟩)).setCell ⟨gr,4,none⟩ (.string ⟨#[]⟩)).setCell ⟨gr,5,none⟩ (.slice none 0 0)).setCell ⟨gr,6,none⟩ (.slice none 0 0)) gr noStep zeroN (.slice none 0 0) (.slice none 0 0) (.slice none 0 0)∧Exc g W ((((((((w5).setCell ⟨gr,0,none⟩ (.string ⟨#[]⟩)).setCell ⟨gr,1,none⟩ (.slice none 0 0)).setCell ⟨gr,2,none⟩ (.int .i64 0)).setCell ⟨gr,3,none⟩ (.string ⟨#[]⟩)).setCell ⟨gr,4,none⟩ (.string ⟨#[]⟩)).setCell ⟨gr,5,none⟩ (.slice none 0 0)).setCell ⟨gr,6,none⟩ (.slice none 0 0))∧ErrV ((((((((w5).setCell ⟨gr,0,none⟩ (.string ⟨#[]⟩)).setCell ⟨gr,1,none⟩ (.slice none 0 0)).setCell ⟨gr,2,none⟩ (.int .i64 0)).setCell ⟨gr,3,none⟩ (.string ⟨#[]⟩)).setCell ⟨gr,4,none⟩ (.string ⟨#[]⟩)).setCell ⟨gr,5,none⟩ (.slice none 0 0)).setCell ⟨gr,6,none⟩ (.slice none 0 0)) W.heap.size cc.1 cc.2 (.iface 116 (.pointer (some ⟨b1,0,none⟩))) from⟨hk4.put (t:=noStep) (m:=zeroN) (lv:= .slice none 0 0) (ya:= .slice none 0 0) (yk:= .slice none 0 0),hXz.st7 (by have:=HG.out;omega) noStep zeroN (.slice none 0 0) (.slice none 0 0) (.slice none 0 0),(hv.kept7 (by have:=HG.out;omega) (s:=noStep) (n:=zeroN) (kv:= .slice none 0 0) (xa:= .slice none 0 0) (xk:= .slice none 0 0)).low (by have:=HG.out;omega)⟩)
   clear hk4 hXz hv
   go_wp2_with fail
   refine bodyPost_ret (res_node rfl _ _ _ ⟨gr,0,none⟩ ?_ (load_keyed HP.out.1)) rfl ?_
   ·
    rfl
   rw[HN.out]
   exact⟨HP.out.2.1,_,rfl,HP.out.2.2⟩
end Go.Proofs.YtcfibjiikhnfhaaGreatDoor
