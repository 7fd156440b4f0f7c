/-
 ref22.nodes. Helper lemmas;no statement of the seat is proved here.
-/
import Derived.Test.YtngmgjodcnknoaaGreatDoorU25
namespace Go.Proofs.YtngmgjodcnknoaaGreatDoor
open Go.RowKit
set_option maxHeartbeats 32000000
set_option maxRecDepth 100000
set_option linter.unusedVariables false
set_option linter.unusedSimpArgs false
def TabR (w:World) (R:List R4) (e:Ending) (w':World):Prop:=∃(M:List QN) (rv:Value),e= .returned rv∧w'.ownsRow w.heap.size 81 6 rv M.length (M.flatMap qnV)∧M.map k4=R∧Ext w w'
theorem own_pos {w:World} {base z n:Nat} {e:TypeId} {v:Value} {us:List Value} (h:w.ownsRow base e z v n us) (hn:0< n):∃g cap,v= .slice (some ⟨g,0,none⟩) n cap∧base≤g∧g< w.heap.size:=by
 rcases h.2 with⟨rfl,rfl⟩ | ⟨g,cap,cur,rfl,hb,_⟩
 ·
  omega
 ·
  exact⟨g,cap,rfl,hb,(h.lt g rfl).2⟩
def KS (a:Nat) (u:World) (dv:Value) (w:World):Prop:=u.heap.size≤w.heap.size∧(∀b,a≤b→b< u.heap.size→w.heap[b]? =u.heap[b]?)∧∀g,dv.ownBlock=some g→g< a∨u.heap.size≤g
theorem KS.grown {a g:Nat} {u w w1 w2:World} {dv v':Value} (h:KS a u dv w) (hv:dv.ownBlock=some g) (hE:Ext w w1) (hG:w1.grownBy w2 (some g)) (hat:v'.ownBlock=some g∨v'.ownBlock=some w1.heap.size):KS a u v' w2:=by
 obtain⟨h1,h2,h3⟩:=h
 have hg:=h3 g hv
 have hs:=hE.size
 refine⟨Nat.le_trans h1 (Nat.le_trans hs hG.size),fun b hb1 hb2=> ?_,fun k hk=> ?_⟩
 ·
  rw[hG.block b kA (fun e=>by have:=Option.some.inj e;omega),Below.block hE b kA]
  exact h2 b hb1 hb2
 ·
  rcases hat with e | e<;> rw[e]at hk<;> have:=Option.some.inj hk<;> omega
theorem rnodes_any (l:List Rule) (hrok:RulesOk l) (pr:Nat→Prop) (vl:Value):∀(N:Nat) (n:Node) (p pn:Nat→Prop) (a par:Int) (path:Bytes) (names:List Bytes) (va vk vn:Value) (w:World),nsz n≤N→cntN n≤1048576→names.length+nsz n≤1048576→Rep w pr vl (rulesD l)→Rep w p va (attrsD n.attrs)→Rep w p vk (nodesD n.kids)→Rep w pn vn (strsD names)→
  (names≠ []→wfN l n names)→0≤a→a+(rowsD l n path names).length≤4194304→(∀r∈rowsD l n path names,ok4 r)→
  Calls Tryz.prog 78 #[vl,.agg #[.int .i64 n.kind,.string (bs n.name),.string (bs n.text),va,vk],.int .i64 a,.int .i64 par,.string (bs path),vn] w (TabR w (rowsD l n path names)):=by
 intro N
 induction N with
 | zero=>intro n p pn a par path names va vk vn w hN;cases n;rw[nsz]at hN;omega
 | succ N ih=>
  intro n p pn a par path names va vk vn w hN hcnt hns hrl hva hvk hvn hwf ha0 ha1 hok
  obtain⟨ba,ca,rfl,_,_⟩:=hva.count z_attr kA
  obtain⟨bk,ck,rfl,_,_⟩:=hvk.count z_node kA
  obtain⟨ra,rc,rfl,_,_⟩:=hrl.count z_rule kA
  obtain⟨na,nc,rfl,_,_⟩:=hvn.count z_str kA
  obtain⟨R,hR⟩:∃R,rowsD l n path names=R:=⟨_,rfl⟩
  have hRe:=rowsD_eq l n path names
  rw[hR]at ha1 hok hRe⊢
  have hRl:(R.length:Int)≤4194304:=by omega
  have hpl:path.length≤1000000000000:=(hok (n.kind,n.name,n.text,path) (by rw[hRe];simp)).2.2
  have hal:1+n.attrs.length≤R.length:=by
   have:=congrArg List.length hRe
   rw[List.length_append,List.length_cons]at this
   have e:(attrRows path n.attrs).length=n.attrs.length:=List.length_map _
   omega
  have HOK:=Lh hok
  have HRE:=Lh hRe
  have HA1:=Lh (And.intro hal ha1)
  have IH:=Lh ih
  have HV:=Lh (And.intro hrl (And.intro hva (And.intro hvk hvn)))
  have HW:=Lh (And.intro hwf (And.intro hN (And.intro hcnt hns)))
  obtain⟨i0,hin0,hq0,hq1,hq2⟩:=info_parts infoQN
  obtain⟨wz,hwz⟩:∃W',w.alloc (.cells #[.int .i64 n.kind,.string (bs n.name),.string (bs n.text),.slice ba n.attrs.length ca,.slice bk n.kids.length ck] 66)=W':=⟨_,rfl⟩
  have hE:Ext w wz:=by rw[←hwz];exact(Ext.refl w).alloc _
  have hblk:wz.heap[w.heap.size]? =some (.cells [.int .i64 n.kind,.string (bs n.name),.string (bs n.text),.slice ba n.attrs.length ca,.slice bk n.kids.length ck].toArray 66 (0,0)):=by rw[←hwz];exact Array.getElem?_push_size
  have hbl:=blk_lt hblk
  have HB:=Lh hblk
  have b0:=blk_cells hblk 0 rfl;have b1:=blk_cells hblk 1 rfl;have b2:=blk_cells hblk 2 rfl
  have HE:=Lh hE
  have hrow:=World.ownsRow_lit (base:=wz.heap.size) (e:=81) (size:=6) wz #[.int .i64 n.kind,.string (bs n.name),.string (bs n.text),.int .i64 par,.int .i64 0,.string (bs path)] 1 (Nat.le_refl _) (by unfold maxLen;decide) rfl
  have HR0:=Lh hrow
  have hal8:(n.attrs.length:Int)≤4194304:=by omega
  clear ih hN hcnt hns hrl hva hvk hvn hwf ha1 hok hR hRe hal hE hblk hrow
  go_enter Tryz.func78,Tryz.ntmps78
  go_wp2_with fail
  go_loopw [13,14] (fun dv t wr=>∃(i:Nat) (L:List QN),t= .int .i64 i∧i≤n.attrs.length∧L.length=1+i∧Hid (wr.ownsRow wz.heap.size 81 6 dv L.length (L.flatMap qnV)∧L.map k4=(n.kind,n.name,n.text,path)::attrRows path (n.attrs.take i))∧Hid (Ext wz wr)) (fun _ t _=>downV n.attrs.length t)
  case atStart=>
   exact⟨0,[⟨n.kind,n.name,n.text,par,0,path⟩],rfl,Nat.zero_le _,rfl,Lh ⟨HR0.out,rfl⟩,Lh ((Ext.refl wz).alloc _)⟩
  case round=>
   obtain⟨i,L,rfl,hi,hLi,HO,HX⟩:=hrel
   obtain⟨oo,oc,rfl⟩:=own_slice HO.out.1
   have hi0:=nZ0 i
   have HLI:=Lh hLi
   have hL8:(L.length:Int)≤4194304:=by have:=HA1.out;omega
   have hL0:(0:Int)≤(L.length:Int):=by omega
   clear HR0
   by_cases hlt:i< n.attrs.length
   ·
    have hlI:(i:Int)< (n.attrs.length:Int):=by omega
    obtain⟨ga,oa,hga,lga,_,d0,d1⟩:=attr_at HV.out.2.1 i hlt
    subst hga
    have hN:=attr_row path n.attrs i hlt
    have hm:=HOK.out (5,n.attrs[i].n,n.attrs[i].v,path++([47,64]++n.attrs[i].n)) (by rw[HRE.out];exact List.mem_append_left _ (List.mem_cons_of_mem _ (List.mem_map.2 ⟨_,List.getElem_mem hlt,rfl⟩)))
    obtain⟨x,hx⟩:∃x,n.attrs[i]=x:=⟨_,rfl⟩
    rw[hx]at d0 d1 hN hm
    have n0:=HE.out.keep lga d0
    have n1:=HE.out.keep lga d1
    have b3:=blk_cells HB.out 3 rfl
    have lgz:ga< wz.heap.size:=Nat.lt_of_lt_of_le lga HE.out.size
    have c3:=HX.out.keep hbl b3
    have hw1:IntKind.i64.wrap (a+(L.length:Int))=a+L.length:=IntWalk.i64_in _ (by have:=HA1.out;omega)
    have hw2:IntKind.i64.wrap (a+(L.length:Int)+1)=a+L.length+1:=IntWalk.i64_in _ (by have:=HA1.out;omega)
    have hxn:x.n.length≤1048576:=hm.1
    have hcat:(bs path++(⟨#[47,64]⟩:ByteArray))++bs x.n=bs (path++([47,64]++x.n)):=by rw[←List.append_assoc,←bs_append,←bs_append];rfl
    have HN:=Lh hN
    clear hx d0 d1 hN hm hLi
    go_wp2_with fail
    refine rg_begin (S:=Sx wz) kB (HX.out.drew) ?_
    have hSa:Sx wz (World.drew wr):=(HX.out.drew)
    refine gT 0 37 (.slice oo L.length oc) hSa ?_
    simp only[Act.put,sA,sZ,sS]
    refine gT 1 38 (.pointer (some ⟨w.heap.size,3,none⟩)) hSa ?_
    simp only[Act.put,sA,sZ,sS]
    refine gT 2 39 (.slice (some ⟨ga,oa,none⟩) n.attrs.length ca) hSa ?_ (hv:=fun w' hs=>by(have h0:=hs.cell hbl b3;go_simp))
    simp only[Act.put,sA,sZ,sS]
    refine gT 3 40 (.int .i64 i) hSa ?_
    simp only[Act.put,sA,sZ,sS]
    refine gT 4 41 (.pointer (some ⟨ga,oa+i*2,none⟩)) hSa ?_
    simp only[Act.put,sA,sZ,sS]
    refine gT 5 42 (.pointer (some ⟨ga,oa+i*2,none⟩)) hSa ?_
    simp only[Act.put,sA,sZ,sS]
    refine gT 6 43 (.string (bs x.n)) hSa ?_ (hv:=fun w' hs=>by(have h0:=hs.cell lgz n0;go_simp))
    simp only[Act.put,sA,sZ,sS]
    refine gT 7 44 (.pointer (some ⟨w.heap.size,3,none⟩)) hSa ?_
    simp only[Act.put,sA,sZ,sS]
    refine gT 8 45 (.slice (some ⟨ga,oa,none⟩) n.attrs.length ca) hSa ?_ (hv:=fun w' hs=>by(have h0:=hs.cell hbl b3;go_simp))
    simp only[Act.put,sA,sZ,sS]
    refine gT 9 46 (.int .i64 i) hSa ?_
    simp only[Act.put,sA,sZ,sS]
    refine gT 10 47 (.pointer (some ⟨ga,oa+i*2,none⟩)) hSa ?_
    simp only[Act.put,sA,sZ,sS]
    refine gT 11 48 (.pointer (some ⟨ga,oa+i*2+1,none⟩)) hSa ?_
    simp only[Act.put,sA,sZ,sS]
    refine gT 12 49 (.string (bs x.v)) hSa ?_ (hv:=fun w' hs=>by(have h0:=hs.cell lgz n1;go_simp))
    simp only[Act.put,sA,sZ,sS]
    refine gT 13 50 (.int .i64 a) hSa ?_
    simp only[Act.put,sA,sZ,sS]
    refine gT 14 51 (.int .i64 a) hSa ?_
    simp only[Act.put,sA,sZ,sS]
    refine gT 15 52 (.slice oo L.length oc) hSa ?_
    simp only[Act.put,sA,sZ,sS]
    refine gT 16 53 (.int .i64 L.length) hSa ?_
    simp only[Act.put,sA,sZ,sS]
    refine gT 17 54 (.int .i64 (a+L.length)) hSa ?_
    simp only[Act.put,sA,sZ,sS]
    refine gT 18 55 (.int .i64 (a+L.length+1)) hSa ?_
    simp only[Act.put,sA,sZ,sS]
    refine gT 19 56 (.string (bs path)) hSa ?_
    simp only[Act.put,sA,sZ,sS]
    refine gT 20 57 (.string (bs path++⟨#[47,64]⟩)) hSa ?_ (hv:=fun w' hs=>by exact exec_cat rfl rfl rfl (by rw[bs_size];show _+2≤_;omega))
    simp only[Act.put,sA,sZ,sS]
    refine gT 21 58 (.pointer (some ⟨w.heap.size,3,none⟩)) hSa ?_
    simp only[Act.put,sA,sZ,sS]
    refine gT 22 59 (.slice (some ⟨ga,oa,none⟩) n.attrs.length ca) hSa ?_ (hv:=fun w' hs=>by(have h0:=hs.cell hbl b3;go_simp))
    simp only[Act.put,sA,sZ,sS]
    refine gT 23 60 (.int .i64 i) hSa ?_
    simp only[Act.put,sA,sZ,sS]
    refine gT 24 61 (.pointer (some ⟨ga,oa+i*2,none⟩)) hSa ?_
    simp only[Act.put,sA,sZ,sS]
    refine gT 25 62 (.pointer (some ⟨ga,oa+i*2,none⟩)) hSa ?_
    simp only[Act.put,sA,sZ,sS]
    refine gT 26 63 (.string (bs x.n)) hSa ?_ (hv:=fun w' hs=>by(have h0:=hs.cell lgz n0;go_simp))
    simp only[Act.put,sA,sZ,sS]
    refine gT 27 64 (.string (bs (path++([47,64]++x.n)))) hSa ?_ (hv:=fun w' hs=>by rw[←hcat];exact exec_cat rfl rfl rfl (by rw[ByteArray.size_append,bs_size,bs_size];show _+2+_≤_;omega))
    simp only[Act.put,sA,sZ,sS]
    refine gT 28 65 (.agg #[.int .i64 5,.string (bs x.n),.string (bs x.v),.int .i64 a,.int .i64 (a+L.length+1),.string (bs (path++([47,64]++x.n)))]) hSa ?_
    simp only[Act.put,sA,sZ,sS]
    refine rg_one 29 kB ?_
    refine tk_new 29 (some 66) (.cells #[.int .i64 5,.string (bs x.n),.string (bs x.v),.int .i64 a,.int .i64 (a+L.length+1),.string (bs (path++([47,64]++x.n)))] 81) (fun n=> .slice (some ⟨n,0,none⟩) 1 1) rfl rfl (by rfl) kF ?_
    intro g xg eg hxg hzg hC
    have hSg:Sx wz xg:=hSa.ext hxg
    refine⟨hSg,?_⟩
    simp only[Act.put,sA,sZ,sS]
    refine rg_one 30 kB ?_
    refine tk_app 30 (some 67) rfl rfl (by rfl) (.tmp 37) (.tmp 66) 72 rfl wz.heap.size 81 i0 (.agg #[.int .i64 0,.string ⟨#[]⟩,.string ⟨#[]⟩,.int .i64 0,.int .i64 0,.string ⟨#[]⟩]) 6 72 Tryz.underlying72 hin0 hq0 hq1 hq2 rfl kD _ L.length (L.flatMap qnV) rfl (rows_ext HO.out.1.drew hxg) ⟨g,0,none⟩ 1 1 [.int .i64 5,.string (bs x.n),.string (bs x.v),.int .i64 a,.int .i64 (a+L.length+1),.string (bs (path++([47,64]++x.n)))] rfl rfl (fun j u hj=>by rw[add_offs',Nat.zero_add];exact blk_cells hC j hj) kP kC kA (show Ext wz xg from hSg).size ?_
    intro v' w' own' hg' _
    have hS':Sx wz w':=sx_grown hSg (rows_ext HO.out.1.drew hxg) hg'
    refine⟨hS',?_⟩
    simp only[Act.put,sA,sZ,sS]
    refine gT 31 13 (v') hS' ?_
    simp only[Act.put,sA,sZ,sS]
    refine rg_done kB ?_
    have HF:Hid (w'.ownsRow wz.heap.size 81 6 v' (L++ [(⟨5,x.n,x.v,a,a+L.length+1,path++([47,64]++x.n)⟩:QN)]).length ((L++ [(⟨5,x.n,x.v,a,a+L.length+1,path++([47,64]++x.n)⟩:QN)]).flatMap qnV)∧(L++ [(⟨5,x.n,x.v,a,a+L.length+1,path++([47,64]++x.n)⟩:QN)]).map k4=(n.kind,n.name,n.text,path)::attrRows path (n.attrs.take (i+1))):=Lh (by
     refine⟨by rw[List.length_append,List.flatMap_append];exact own',?_⟩
     rw[List.map_append,HO.out.2,HN.out,List.cons_append];rfl)
    have HXF:=Lh (show Ext wz w' from hS')
    clear own' hg' hcat n0 n1 c3 b3
    go_wp2_with fail
    go_roundw
    case rel=>exact⟨i+1,_,by go_num,by omega,by rw[List.length_append];have:=HLI.out;simp;omega,HF,HXF⟩
    case measure=>exact mZ
   ·
    have hlI:¬(i:Int)< (n.attrs.length:Int):=by omega
    have hF:=HO.out
    rw[List.take_of_length_le kA]at hF
    have b3:=blk_cells HB.out 3 rfl
    have c3:=HX.out.keep hbl b3
    have HF:=Lh hF
    have HFR:=Lh fun W (hE:Ext w W)=>(front_q pr pn l names _ _ W (HV.out.1.ext hE) (HV.out.2.2.2.ext hE)).mono (R':=fun e w'=>e= .returned (.bool (frontS l names))∧Ext W w') fun e w' h=>⟨h.1,h.2.ext⟩
    clear hF HO b3 hLi
    by_cases hnn:names= []
    ·
     have hn0:names.length=0:=by rw[hnn];rfl
     have hn1:¬(0:Int)< (names.length:Int):=by omega
     have HNN:=Lh hnn
     clear hnn
     obtain⟨wk,hwk⟩:∃wk,wk=wr:=⟨_,rfl⟩
     have hEk:Ext wr wk:=by rw[hwk];exact Ext.refl _
     go_wp2_with fail
     rw[←hwk]
     clear hwk
     have hRN:R=((n.kind,n.name,n.text,path)::attrRows path n.attrs)++rowsL l n.kids path names none 0:=by rw[HRE.out,HNN.out];rfl
     have H0:Hid (wk.ownsRow wz.heap.size 81 6 (.slice oo L.length oc) L.length (L.flatMap qnV)∧L.map k4++rowsL l (n.kids.drop 0) path names none 0=R):=Lh ⟨rows_ext HF.out.1 hEk,by rw[HF.out.2,List.drop_zero,hRN]⟩
     have HXk:=Lh (HX.out.trans hEk)
     have hL1:0< L.length:=by have:=HLI.out;omega
     have hkl:(n.kids.length:Int)≤1048576:=by have:=HW.out.2.2.1;have:=cntL_len' n.kids;have:=cntN_own n;omega
     clear hRN hEk HF HX HLI hL8 hL0 hlt hlI hi hi0 HFR
     go_loopw [13,17,18,19] (fun dv t _ _ wr=>∃(i:Nat) (L:List QN),t= .int .i64 i∧i≤n.kids.length∧0< L.length∧Hid (wr.ownsRow wz.heap.size 81 6 dv L.length (L.flatMap qnV)∧L.map k4++rowsL l (n.kids.drop i) path names none i=R)∧Hid (Ext wz wr)) (fun _ t _ _ _=>downV n.kids.length t)
     case atStart=>exact⟨0,L,rfl,Nat.zero_le _,hL1,H0,HXk⟩
     case round=>
      clear H0 HXk hL1
      obtain⟨j,M,rfl,hj,hM1,HO,HX⟩:=hrel
      obtain⟨g,cm,rfl,hbg,hlg⟩:=own_pos HO.out.1 hM1
      have hj0:=nZ0 j
      have c4:=HX.out.keep hbl (blk_cells HB.out 4 rfl)
      have hsl:=congrArg List.length HO.out.2
      rw[List.length_append,List.length_map]at hsl
      have haM:a+(M.length:Int)≤4194304:=by have:=HA1.out.2;omega
      have hM0:(0:Int)≤(M.length:Int):=by omega
      have HG:=Lh (And.intro hbg (And.intro hlg hsl))
      clear hsl hbg hlg
      by_cases hlk:j< n.kids.length
      ·
       have hlI:(j:Int)< (n.kids.length:Int):=by omega
       obtain⟨gk,ok,ku,nu,hgk,lgk,_,d0,d1,d2,d3,d4,hku,hnu⟩:=node_at HV.out.2.2.1 j hlk
       subst hgk
       have hky:=kid_lt n j hlk
       have hcy:=kid_le n.kids j hlk
       have hsum:=HO.out.2
       rw[drop_one n.kids j hlk,rowsL]at hsum
       obtain⟨y,hy⟩:∃y,n.kids[j]=y:=⟨_,rfl⟩
       rw[hy]at d0 d1 d2 hku hnu hky hcy hsum
       obtain⟨yua,yuc,rfl,_,_⟩:=hku.count z_attr kA
       obtain⟨yna,ync,rfl,_,_⟩:=hnu.count z_node kA
       obtain⟨P,hP⟩:∃P,idxPath path j=P:=⟨_,rfl⟩
       obtain⟨D,hD⟩:∃D,Lib.decDigits (j+1)=D:=⟨_,rfl⟩
       obtain⟨T,hT⟩:∃T,rowsL l (n.kids.drop (j+1)) path names none (j+1)=T:=⟨_,rfl⟩
       have hDl:D.length≤8:=by rw[←hD];exact dec_len 7 (j+1) kA
       have hPD:path++([47,35]++D)=P:=by rw[←hP,←hD];rfl
       rw[hP,hT]at hsum
       have hsl2:=congrArg List.length hsum
       rw[List.length_append,List.length_append,List.length_map]at hsl2
       have hXw:=HE.out.trans HX.out
       have n0:=hXw.keep lgk d0
       have n1:=hXw.keep lgk d1
       have n2:=hXw.keep lgk d2
       have n3:=hXw.keep lgk d3
       have n4:=hXw.keep lgk d4
       have HIT:=Lh (show Calls Tryz.prog 115 #[.int .i64 ((j:Int)+1)] wr fun e w'=>e= .returned (.string (bs D))∧Ext wr w' by
        have:=ritoa_any (j+1) kA wr
        rw[show((j+1:Nat):Int)=(j:Int)+1 by omega,hD]at this
        exact this)
       have hw1:IntKind.i64.wrap (a+(M.length:Int))=a+M.length:=IntWalk.i64_in _ kA
       have r1:¬9223372036854775807< (bs path).size+2:=by rw[bs_size];omega
       have r2:¬9223372036854775807< (bs path++(⟨#[47,35]⟩:ByteArray)).size+(bs D).size:=by rw[ByteArray.size_append,bs_size,bs_size];show¬_< _+2+_;omega
       have hcat:(bs path++(⟨#[47,35]⟩:ByteArray))++bs D=bs P:=by rw[←hPD,←List.append_assoc,←bs_append,←bs_append];rfl
       have HS:=Lh (And.intro hsum (And.intro hT (And.intro hsl2 (And.intro hky hcy))))
       have HD:=Lh (And.intro d0 (And.intro d1 (And.intro d2 (And.intro d3 (And.intro d4 (And.intro lgk (And.intro hku hnu)))))))
       clear hy d0 d1 d2 d3 d4 hku hnu hky hcy hsum hsl2 hPD hP hD hT hXw
       go_wp2_with fail
       refine HIT.out.mono ?_
       rintro e w5 ⟨rfl,hX5⟩
       have hX5z:=HX.out.trans hX5
       have hXw5:=HE.out.trans hX5z
       have m0:=hXw5.keep HD.out.2.2.2.2.2.1 HD.out.1
       have m1:=hXw5.keep HD.out.2.2.2.2.2.1 HD.out.2.1
       have m2:=hXw5.keep HD.out.2.2.2.2.2.1 HD.out.2.2.1
       have m3:=hXw5.keep HD.out.2.2.2.2.2.1 HD.out.2.2.2.1
       have m4:=hXw5.keep HD.out.2.2.2.2.2.1 HD.out.2.2.2.2.1
       have c4':=hX5z.keep hbl (blk_cells HB.out 4 rfl)
       have HNX:=Lh (IH.out y p (fun _=>True) (a+M.length) a P [] _ _ (.slice none 0 0) w5 (by have:=HW.out.2.1;have:=HS.out.2.2.2.1;omega) (by have:=HW.out.2.2.1;have:=HS.out.2.2.2.2;have:=cntN_own n;omega) (by have:=HW.out.2.1;have:=HW.out.2.2.2;have:=HS.out.2.2.2.1;simp only[List.length_nil];omega) (HV.out.1.ext hXw5) (HD.out.2.2.2.2.2.2.1.ext hXw5) (HD.out.2.2.2.2.2.2.2.ext hXw5) (.nil 1) (fun h=>absurd rfl h) kA (by have:=HA1.out.2;have:=HS.out.2.2.1;omega) (fun r hr=>HOK.out r qA))
       have HO5:=Lh (rows_ext HO.out.1 hX5)
       have HX5:=Lh hX5z
       clear n0 n1 n2 n3 n4 c4 HIT hX5 hXw5 hX5z r1
       go_wp2_with fail
       refine HNX.out.mono ?_
       rintro e w6 ⟨M2,rv2,rfl,h2o,hM2,hX6⟩
       have h2l:M2.length=(rowsD l y P []).length:=by rw[←hM2,List.length_map]
       have h20:0< M2.length:=by
        have:=congrArg List.length (rowsD_eq l y P [])
        rw[List.length_append,List.length_cons]at this
        omega
       have hMM:(M.length:Int)+M2.length≤4194304:=by have:=HA1.out.2;have:=HS.out.2.2.1;omega
       obtain⟨g2,c2,rfl,_,_⟩:=own_pos h2o h20
       have HO6:=Lh (And.intro (rows_ext HO5.out hX6) (And.intro h2o hM2))
       have HX6:=Lh (HX5.out.trans hX6)
       clear HNX h2o hM2 hX6 m0 m1 m2 m3 m4 r2 HO5 HX5 h2l h20 hcat
       go_wp2_with (at_builtin;refine wpList_append_own_at _ rfl (.tmp 115) (.tmp 129) _ rfl wz.heap.size 81 i0 (.agg #[.int .i64 0,.string ⟨#[]⟩,.string ⟨#[]⟩,.int .i64 0,.int .i64 0,.string ⟨#[]⟩]) 6 72 Tryz.underlying72 hin0 hq0 hq1 hq2 rfl kD (.slice (some ⟨g,0,none⟩) M.length cm) M.length (M.flatMap qnV) rfl HO6.out.1 ⟨g2,0,none⟩ M2.length c2 (M2.flatMap qnV) rfl (qnV_len M2) (HO6.out.2.1.cells (g:=g2) rfl) (one_qns M2) kC kA HX6.out.size ?_;intro v7 w7 hown7 hgrow7 _ hat7;have HO7:=Lh (And.intro hown7 hgrow7);clear hown7 hgrow7 hat7)
       have HX7:=Lh (show Ext wz w7 from Below.grown HX6.out HO7.out.2 (Below.size HX6.out) fun k hk=>(HO6.out.1.lt k hk).1)
       go_roundw
       case rel=>exact⟨j+1,M++M2,by go_num,by omega,by rw[List.length_append];omega,Lh ⟨by rw[List.length_append,List.flatMap_append];exact HO7.out.1,by rw[HS.out.2.1,List.map_append,HO6.out.2.2,List.append_assoc,HS.out.1]⟩,HX7⟩
       case measure=>exact mZ
      ·
       have hlI:¬(j:Int)< (n.kids.length:Int):=by omega
       have hF:=HO.out
       rw[List.drop_of_length_le kA,rowsL,List.append_nil]at hF
       obtain⟨q0,Mr,hM⟩:∃q r,M=q::r:=by
        cases M with
        | nil=>simp at hM1
        | cons q r=>exact⟨q,r,rfl⟩
       have e4:wr.cell? ⟨g,4,none⟩=some (.int .i64 q0.fin):=by
        rw[HO.out.1.cellAt 4 kA,hM];rfl
       have f4:=HO.out.1.frozenAt 4
       have hM0':(0:Int)< (M.length:Int):=by omega
       have hw1:IntKind.i64.wrap (a+(M.length:Int))=a+M.length:=IntWalk.i64_in _ kA
       have HM:=Lh hM
       have HF:=Lh hF
       clear hM hF HO
       go_wp2_with fail
       go_ret
       have h1:=(HF.out.1.stored 4 (.int .i64 (a+M.length))).1
       have e1:(M.flatMap qnV).set 4 (.int .i64 (a+M.length))=({q0 with fin:=a+M.length}::Mr).flatMap qnV:=by
        obtain⟨m,hm⟩:∃m:Int,a+M.length=m:=⟨_,rfl⟩
        rw[hm,HM.out];rfl
       have e2:({q0 with fin:=a+M.length}::Mr).length=M.length:=by rw[HM.out];rfl
       rw[e1]at h1
       refine⟨{q0 with fin:=a+M.length}::Mr,_,rfl,?_,?_,?_⟩
       ·
        rw[e2]
        exact rows_low h1 HE.out.size
       ·
        have h3:=HF.out.2
        rw[HM.out]at h3
        rw[←h3];rfl
       ·
        exact HE.out.trans (HX.out.set (p:=⟨g,4,none⟩) HG.out.1 _)
    ·
     have hn0:0< names.length:=List.length_pos_iff.2 hnn
     have hn1:(0:Int)< (names.length:Int):=by omega
     go_wp2_with fail
     refine(HFR.out _ (HE.out.trans HX.out)).mono ?_
     rintro e wk ⟨rfl,hEk⟩
     obtain⟨b,hb⟩:∃b,frontS l names=b:=⟨_,rfl⟩
     rw[hb]
     have HBF:=Lh hb
     clear hb
     cases b with
     | true=>
      go_wp2_with fail
      have hRN:R=((n.kind,n.name,n.text,path)::attrRows path n.attrs)++rowsL l n.kids path names none 0:=by rw[HRE.out,if_neg (by unfold keyedB;rw[HBF.out];simp)]
      have H0:Hid (wk.ownsRow wz.heap.size 81 6 (.slice oo L.length oc) L.length (L.flatMap qnV)∧L.map k4++rowsL l (n.kids.drop 0) path names none 0=R):=Lh ⟨rows_ext HF.out.1 hEk,by rw[HF.out.2,List.drop_zero,hRN]⟩
      have HXk:=Lh (HX.out.trans hEk)
      have hL1:0< L.length:=by have:=HLI.out;omega
      have hkl:(n.kids.length:Int)≤1048576:=by have:=HW.out.2.2.1;have:=cntL_len' n.kids;have:=cntN_own n;omega
      clear hRN hEk HF HX HLI hL8 hL0 hlt hlI hi hi0 HFR
      go_loopw [13,17,18,19] (fun dv t _ _ wr=>∃(i:Nat) (L:List QN),t= .int .i64 i∧i≤n.kids.length∧0< L.length∧Hid (wr.ownsRow wz.heap.size 81 6 dv L.length (L.flatMap qnV)∧L.map k4++rowsL l (n.kids.drop i) path names none i=R)∧Hid (Ext wz wr)) (fun _ t _ _ _=>downV n.kids.length t)
      case atStart=>exact⟨0,L,rfl,Nat.zero_le _,hL1,H0,HXk⟩
      case round=>
       clear H0 HXk hL1
       obtain⟨j,M,rfl,hj,hM1,HO,HX⟩:=hrel
       obtain⟨g,cm,rfl,hbg,hlg⟩:=own_pos HO.out.1 hM1
       have hj0:=nZ0 j
       have c4:=HX.out.keep hbl (blk_cells HB.out 4 rfl)
       have hsl:=congrArg List.length HO.out.2
       rw[List.length_append,List.length_map]at hsl
       have haM:a+(M.length:Int)≤4194304:=by have:=HA1.out.2;omega
       have hM0:(0:Int)≤(M.length:Int):=by omega
       have HG:=Lh (And.intro hbg (And.intro hlg hsl))
       clear hsl hbg hlg
       by_cases hlk:j< n.kids.length
       ·
        have hlI:(j:Int)< (n.kids.length:Int):=by omega
        obtain⟨gk,ok,ku,nu,hgk,lgk,_,d0,d1,d2,d3,d4,hku,hnu⟩:=node_at HV.out.2.2.1 j hlk
        subst hgk
        have hky:=kid_lt n j hlk
        have hcy:=kid_le n.kids j hlk
        have hsum:=HO.out.2
        rw[drop_one n.kids j hlk,rowsL]at hsum
        obtain⟨y,hy⟩:∃y,n.kids[j]=y:=⟨_,rfl⟩
        rw[hy]at d0 d1 d2 hku hnu hky hcy hsum
        obtain⟨yua,yuc,rfl,_,_⟩:=hku.count z_attr kA
        obtain⟨yna,ync,rfl,_,_⟩:=hnu.count z_node kA
        obtain⟨P,hP⟩:∃P,idxPath path j=P:=⟨_,rfl⟩
        obtain⟨D,hD⟩:∃D,Lib.decDigits (j+1)=D:=⟨_,rfl⟩
        obtain⟨T,hT⟩:∃T,rowsL l (n.kids.drop (j+1)) path names none (j+1)=T:=⟨_,rfl⟩
        have hDl:D.length≤8:=by rw[←hD];exact dec_len 7 (j+1) kA
        have hPD:path++([47,35]++D)=P:=by rw[←hP,←hD];rfl
        rw[hP,hT]at hsum
        have hsl2:=congrArg List.length hsum
        rw[List.length_append,List.length_append,List.length_map]at hsl2
        have hXw:=HE.out.trans HX.out
        have n0:=hXw.keep lgk d0
        have n1:=hXw.keep lgk d1
        have n2:=hXw.keep lgk d2
        have n3:=hXw.keep lgk d3
        have n4:=hXw.keep lgk d4
        have HIT:=Lh (show Calls Tryz.prog 115 #[.int .i64 ((j:Int)+1)] wr fun e w'=>e= .returned (.string (bs D))∧Ext wr w' by
         have:=ritoa_any (j+1) kA wr
         rw[show((j+1:Nat):Int)=(j:Int)+1 by omega,hD]at this
         exact this)
        have hw1:IntKind.i64.wrap (a+(M.length:Int))=a+M.length:=IntWalk.i64_in _ kA
        have r1:¬9223372036854775807< (bs path).size+2:=by rw[bs_size];omega
        have r2:¬9223372036854775807< (bs path++(⟨#[47,35]⟩:ByteArray)).size+(bs D).size:=by rw[ByteArray.size_append,bs_size,bs_size];show¬_< _+2+_;omega
        have hcat:(bs path++(⟨#[47,35]⟩:ByteArray))++bs D=bs P:=by rw[←hPD,←List.append_assoc,←bs_append,←bs_append];rfl
        have HS:=Lh (And.intro hsum (And.intro hT (And.intro hsl2 (And.intro hky hcy))))
        have HD:=Lh (And.intro d0 (And.intro d1 (And.intro d2 (And.intro d3 (And.intro d4 (And.intro lgk (And.intro hku hnu)))))))
        clear hy d0 d1 d2 d3 d4 hku hnu hky hcy hsum hsl2 hPD hP hD hT hXw
        go_wp2_with fail
        refine HIT.out.mono ?_
        rintro e w5 ⟨rfl,hX5⟩
        have hX5z:=HX.out.trans hX5
        have hXw5:=HE.out.trans hX5z
        have m0:=hXw5.keep HD.out.2.2.2.2.2.1 HD.out.1
        have m1:=hXw5.keep HD.out.2.2.2.2.2.1 HD.out.2.1
        have m2:=hXw5.keep HD.out.2.2.2.2.2.1 HD.out.2.2.1
        have m3:=hXw5.keep HD.out.2.2.2.2.2.1 HD.out.2.2.2.1
        have m4:=hXw5.keep HD.out.2.2.2.2.2.1 HD.out.2.2.2.2.1
        have c4':=hX5z.keep hbl (blk_cells HB.out 4 rfl)
        have HNX:=Lh (IH.out y p (fun _=>True) (a+M.length) a P [] _ _ (.slice none 0 0) w5 (by have:=HW.out.2.1;have:=HS.out.2.2.2.1;omega) (by have:=HW.out.2.2.1;have:=HS.out.2.2.2.2;have:=cntN_own n;omega) (by have:=HW.out.2.1;have:=HW.out.2.2.2;have:=HS.out.2.2.2.1;simp only[List.length_nil];omega) (HV.out.1.ext hXw5) (HD.out.2.2.2.2.2.2.1.ext hXw5) (HD.out.2.2.2.2.2.2.2.ext hXw5) (.nil 1) (fun h=>absurd rfl h) kA (by have:=HA1.out.2;have:=HS.out.2.2.1;omega) (fun r hr=>HOK.out r qA))
        have HO5:=Lh (rows_ext HO.out.1 hX5)
        have HX5:=Lh hX5z
        clear n0 n1 n2 n3 n4 c4 HIT hX5 hXw5 hX5z r1
        go_wp2_with fail
        refine HNX.out.mono ?_
        rintro e w6 ⟨M2,rv2,rfl,h2o,hM2,hX6⟩
        have h2l:M2.length=(rowsD l y P []).length:=by rw[←hM2,List.length_map]
        have h20:0< M2.length:=by
         have:=congrArg List.length (rowsD_eq l y P [])
         rw[List.length_append,List.length_cons]at this
         omega
        have hMM:(M.length:Int)+M2.length≤4194304:=by have:=HA1.out.2;have:=HS.out.2.2.1;omega
        obtain⟨g2,c2,rfl,_,_⟩:=own_pos h2o h20
        have HO6:=Lh (And.intro (rows_ext HO5.out hX6) (And.intro h2o hM2))
        have HX6:=Lh (HX5.out.trans hX6)
        clear HNX h2o hM2 hX6 m0 m1 m2 m3 m4 r2 HO5 HX5 h2l h20 hcat
        go_wp2_with (at_builtin;refine wpList_append_own_at _ rfl (.tmp 115) (.tmp 129) _ rfl wz.heap.size 81 i0 (.agg #[.int .i64 0,.string ⟨#[]⟩,.string ⟨#[]⟩,.int .i64 0,.int .i64 0,.string ⟨#[]⟩]) 6 72 Tryz.underlying72 hin0 hq0 hq1 hq2 rfl kD (.slice (some ⟨g,0,none⟩) M.length cm) M.length (M.flatMap qnV) rfl HO6.out.1 ⟨g2,0,none⟩ M2.length c2 (M2.flatMap qnV) rfl (qnV_len M2) (HO6.out.2.1.cells (g:=g2) rfl) (one_qns M2) kC kA HX6.out.size ?_;intro v7 w7 hown7 hgrow7 _ hat7;have HO7:=Lh (And.intro hown7 hgrow7);clear hown7 hgrow7 hat7)
        have HX7:=Lh (show Ext wz w7 from Below.grown HX6.out HO7.out.2 (Below.size HX6.out) fun k hk=>(HO6.out.1.lt k hk).1)
        go_roundw
        case rel=>exact⟨j+1,M++M2,by go_num,by omega,by rw[List.length_append];omega,Lh ⟨by rw[List.length_append,List.flatMap_append];exact HO7.out.1,by rw[HS.out.2.1,List.map_append,HO6.out.2.2,List.append_assoc,HS.out.1]⟩,HX7⟩
        case measure=>exact mZ
       ·
        have hlI:¬(j:Int)< (n.kids.length:Int):=by omega
        have hF:=HO.out
        rw[List.drop_of_length_le kA,rowsL,List.append_nil]at hF
        obtain⟨q0,Mr,hM⟩:∃q r,M=q::r:=by
         cases M with
         | nil=>simp at hM1
         | cons q r=>exact⟨q,r,rfl⟩
        have e4:wr.cell? ⟨g,4,none⟩=some (.int .i64 q0.fin):=by
         rw[HO.out.1.cellAt 4 kA,hM];rfl
        have f4:=HO.out.1.frozenAt 4
        have hM0':(0:Int)< (M.length:Int):=by omega
        have hw1:IntKind.i64.wrap (a+(M.length:Int))=a+M.length:=IntWalk.i64_in _ kA
        have HM:=Lh hM
        have HF:=Lh hF
        clear hM hF HO
        go_wp2_with fail
        go_ret
        have h1:=(HF.out.1.stored 4 (.int .i64 (a+M.length))).1
        have e1:(M.flatMap qnV).set 4 (.int .i64 (a+M.length))=({q0 with fin:=a+M.length}::Mr).flatMap qnV:=by
         obtain⟨m,hm⟩:∃m:Int,a+M.length=m:=⟨_,rfl⟩
         rw[hm,HM.out];rfl
        have e2:({q0 with fin:=a+M.length}::Mr).length=M.length:=by rw[HM.out];rfl
        rw[e1]at h1
        refine⟨{q0 with fin:=a+M.length}::Mr,_,rfl,?_,?_,?_⟩
        ·
         rw[e2]
         exact rows_low h1 HE.out.size
        ·
         have h3:=HF.out.2
         rw[HM.out]at h3
         rw[←h3];rfl
        ·
         exact HE.out.trans (HX.out.set (p:=⟨g,4,none⟩) HG.out.1 _)
     | false=>
      have hXk:=HX.out.trans hEk
      have g0:=hXk.keep hbl (blk_cells HB.out 0 rfl);have g1:=hXk.keep hbl (blk_cells HB.out 1 rfl);have g2:=hXk.keep hbl (blk_cells HB.out 2 rfl);have g3:=hXk.keep hbl (blk_cells HB.out 3 rfl);have g4:=hXk.keep hbl (blk_cells HB.out 4 rfl)
      have HST:=Lh fun W (hE:Ext w W)=>steps_any l names n (fun _=>True) _ _ _ _ W HW.out.2.2.1 hrok (by have:=HW.out.2.2.2;omega) hn0 ((HV.out.1.ext hE).ok fun _ _=>trivial) ((HV.out.2.2.2.ext hE).ok fun _ _=>trivial) ((HV.out.2.1.ext hE).ok fun _ _=>trivial) ((HV.out.2.2.1.ext hE).ok fun _ _=>trivial)
      have hEw:=HE.out.trans hXk
      go_wp2_with fail
      refine(HST.out _ hEw).mono ?_
      rintro e w4 ⟨⟨sv,rfl,hsv⟩,hX4⟩
      have hsteps:(stepsS l names n.kids).length=n.kids.length:=(((wfN_eq l n names).1 (HW.out.1 hnn)).2 HBF.out).1
      have hRN:R=((n.kind,n.name,n.text,path)::attrRows path n.attrs)++rowsL l n.kids path names (some (stepsS l names n.kids)) 0:=by
       rw[HRE.out,if_pos (by unfold keyedB;rw[HBF.out];cases names with | nil=>exact absurd rfl hnn | cons _ _=>rfl)]
      obtain⟨ss,hss⟩:∃ss,stepsS l names n.kids=ss:=⟨_,rfl⟩
      rw[hss]at hsv hsteps hRN
      obtain⟨sa,sc,rfl,_,_⟩:=hsv.count z_step kA
      have HSV:=Lh (And.intro hsv (And.intro hsteps hXk))
      have hslI:(ss.length:Int)=(n.kids.length:Int):=by omega
      clear g0 g1 g2 g3 g4 HST hEw hss hsv hsteps
      go_wp2_with fail
      have H0:Hid (w4.ownsRow wz.heap.size 81 6 (.slice oo L.length oc) L.length (L.flatMap qnV)∧L.map k4++rowsL l (n.kids.drop 0) path names (some (ss.drop 0)) 0=R):=Lh ⟨rows_ext HF.out.1 (hEk.trans hX4),by rw[HF.out.2,List.drop_zero,List.drop_zero,hRN]⟩
      have HKS:=Lh (And.intro (hXk.trans hX4) (show KS wk.heap.size w4 (.slice oo L.length oc) w4 from⟨Nat.le_refl _,fun _ _ _=>rfl,fun k hk=> .inl (Nat.lt_of_lt_of_le (HF.out.1.lt k hk).2 hEk.size)⟩))
      have hL1:0< L.length:=by have:=HLI.out;omega
      have hkl:(n.kids.length:Int)≤1048576:=by have:=HW.out.2.2.1;have:=cntL_len' n.kids;have:=cntN_own n;omega
      clear hRN hEk HF HX HLI hL8 hL0 hlt hlI hi hi0 HFR hXk hX4
      go_loopw [13,17,18,19] (fun dv t _ _ wr=>∃(i:Nat) (L:List QN),t= .int .i64 i∧i≤n.kids.length∧0< L.length∧Hid (wr.ownsRow wz.heap.size 81 6 dv L.length (L.flatMap qnV)∧L.map k4++rowsL l (n.kids.drop i) path names (some (ss.drop i)) i=R)∧Hid (Ext wz wr∧KS wk.heap.size w4 dv wr)) (fun _ t _ _ _=>downV n.kids.length t)
      case atStart=>exact⟨0,L,rfl,Nat.zero_le _,hL1,H0,HKS⟩
      case round=>
       clear H0 hL1 HKS
       obtain⟨j,M,rfl,hj,hM1,HO,HX⟩:=hrel
       obtain⟨g,cm,rfl,hbg,hlg⟩:=own_pos HO.out.1 hM1
       have hj0:=nZ0 j
       have hXz:=HX.out.1
       have c4:=hXz.keep hbl (blk_cells HB.out 4 rfl)
       have hsl:=congrArg List.length HO.out.2
       rw[List.length_append,List.length_map]at hsl
       have haM:a+(M.length:Int)≤4194304:=by have:=HA1.out.2;omega
       have hM0:(0:Int)≤(M.length:Int):=by omega
       have HG:=Lh (And.intro hbg (And.intro hlg (And.intro hsl hXz)))
       clear hsl hbg hlg hXz
       by_cases hlk:j< n.kids.length
       ·
        have hlI:(j:Int)< (n.kids.length:Int):=by omega
        obtain⟨gk,ok,ku,nu,hgk,lgk,_,d0,d1,d2,d3,d4,hku,hnu⟩:=node_at HV.out.2.2.1 j hlk
        subst hgk
        have hjs:j< ss.length:=by rw[HSV.out.2.1];exact hlk
        obtain⟨gs,os,ks0,hgs,lgs,_,t0,t1,hks⟩:=step_at (HSV.out.1.kept (w':=wr) HX.out.2.2.1) j hjs
        subst hgs
        have hky:=kid_lt n j hlk
        have hcy:=kid_le n.kids j hlk
        have hsum:=HO.out.2
        have hs1:(ss.drop j).headD ⟨[],[]⟩=ss[j]:=by rw[drop_one ss j hjs];rfl
        have hs2:(ss.drop j).tail=ss.drop (j+1):=by rw[drop_one ss j hjs];rfl
        rw[drop_one n.kids j hlk,rowsL,hs1,hs2]at hsum
        have hwfy:wfN l n.kids[j] (names++ [n.kids[j].name]):=wfL_mem l names _ _ ((((wfN_eq l n names).1 (HW.out.1 hnn)).2 HBF.out).2.2) (List.getElem_mem hlk)
        obtain⟨y,hy⟩:∃y,n.kids[j]=y:=⟨_,rfl⟩
        obtain⟨st,hst⟩:∃st,ss[j]=st:=⟨_,rfl⟩
        rw[hy]at d0 d1 d2 hku hnu hky hcy hsum hwfy
        rw[hst]at t0 hks hsum
        obtain⟨yua,yuc,rfl,_,_⟩:=hku.count z_attr kA
        obtain⟨yna,ync,rfl,_,_⟩:=hnu.count z_node kA
        obtain⟨ska,skc,rfl,_,_⟩:=hks.count z_str kA
        obtain⟨P,hP⟩:∃P,stepPath path st=P:=⟨_,rfl⟩
        obtain⟨EN,hEN⟩:∃E,endS st=E:=⟨_,rfl⟩
        obtain⟨D,hD⟩:∃D,Lib.decDigits (j+1)=D:=⟨_,rfl⟩
        obtain⟨T,hT⟩:∃T,rowsL l (n.kids.drop (j+1)) path names (some (ss.drop (j+1))) (j+1)=T:=⟨_,rfl⟩
        have hDl:D.length≤8:=by rw[←hD];exact dec_len 7 (j+1) kA
        have hPE:path++([47]++EN)=P:=by rw[←hP,←hEN];rfl
        rw[hP,hT]at hsum
        have hsl2:=congrArg List.length hsum
        rw[List.length_append,List.length_append,List.length_map]at hsl2
        have hPl:P.length≤1000000000000:=(HOK.out (y.kind,y.name,y.text,P) (by rw[←hsum,rowsD_eq];simp)).2.2
        have hENl:EN.length≤1000000000000:=by rw[←hPE,List.length_append,List.length_append]at hPl;omega
        have hXw:=HE.out.trans HG.out.2.2.2
        have n0:=hXw.keep lgk d0
        have n1:=hXw.keep lgk d1
        have n2:=hXw.keep lgk d2
        have n3:=hXw.keep lgk d3
        have n4:=hXw.keep lgk d4
        have HIT:=Lh (show Calls Tryz.prog 115 #[.int .i64 ((j:Int)+1)] wr fun e w'=>e= .returned (.string (bs D))∧Ext wr w' by
         have:=ritoa_any (j+1) kA wr
         rw[show((j+1:Nat):Int)=(j:Int)+1 by omega,hD]at this
         exact this)
        have HND:=Lh fun W (hE:Ext wr W)=>(show Calls Tryz.prog 116 #[.agg #[.string (bs st.n),.slice ska st.key.length skc]] W fun e w'=>e= .returned (.string (bs EN))∧Ext W w' by
         rw[←hEN]
         exact rend_any st.n st.key _ _ W (by rw[show(⟨st.n,st.key⟩:Step)=st from rfl,hEN];exact hENl) (hks.ext hE))
        have hw1:IntKind.i64.wrap (a+(M.length:Int))=a+M.length:=IntWalk.i64_in _ kA
        have r1:¬9223372036854775807< (bs path).size+2:=by rw[bs_size];omega
        have r2:¬9223372036854775807< (bs path++(⟨#[47,35]⟩:ByteArray)).size+(bs D).size:=by rw[ByteArray.size_append,bs_size,bs_size];show¬_< _+2+_;omega
        have HS:=Lh (And.intro hsum (And.intro hT (And.intro hsl2 (And.intro hky (And.intro hcy hwfy)))))
        have HDD:=Lh (And.intro d0 (And.intro d1 (And.intro d2 (And.intro d3 (And.intro d4 (And.intro lgk (And.intro hku hnu)))))))
        have HTT:=Lh (And.intro t0 (And.intro t1 lgs))
        have HPE:=Lh hPE
        clear hy hst d0 d1 d2 d3 d4 hku hnu hky hcy hsum hsl2 hPE hP hEN hD hT hXw t0 t1 hks lgs hs1 hs2 hwfy hPl
        go_wp2_with fail
        refine HIT.out.mono ?_
        rintro e w5 ⟨rfl,hX5⟩
        have hX45:=HX.out.1.trans hX5
        have s0:=hX5.keep HTT.out.2.2 HTT.out.1
        have s1:=hX5.keep HTT.out.2.2 HTT.out.2.1
        have HX45:=Lh (And.intro hX45 hX5)
        clear n0 n1 n2 n3 n4 c4 HIT hX5 hX45 r1
        have r3:¬9223372036854775807< (bs path).size+1:=by rw[bs_size];omega
        go_wp2_with fail
        refine(HND.out _ HX45.out.2).mono ?_
        rintro e w6 ⟨rfl,hX6⟩
        have hX6w:=HX45.out.2.trans hX6
        have hXz6:=HX45.out.1.trans hX6
        have hXw6:=HE.out.trans hXz6
        have m0:=hXw6.keep HDD.out.2.2.2.2.2.1 HDD.out.1
        have m1:=hXw6.keep HDD.out.2.2.2.2.2.1 HDD.out.2.1
        have m2:=hXw6.keep HDD.out.2.2.2.2.2.1 HDD.out.2.2.1
        have m3:=hXw6.keep HDD.out.2.2.2.2.2.1 HDD.out.2.2.2.1
        have m4:=hXw6.keep HDD.out.2.2.2.2.2.1 HDD.out.2.2.2.2.1
        have c4':=hXz6.keep hbl (blk_cells HB.out 4 rfl)
        have r4:¬9223372036854775807< (bs path++(⟨#[47]⟩:ByteArray)).size+(bs EN).size:=by rw[ByteArray.size_append,bs_size,bs_size];show¬_< _+1+_;omega
        have hcat:(bs path++(⟨#[47]⟩:ByteArray))++bs EN=bs P:=by rw[←HPE.out,←List.append_assoc,←bs_append,←bs_append];rfl
        have hbl6:=Nat.lt_of_lt_of_le hbl hXz6.size
        have lgk6:=Nat.lt_of_lt_of_le HDD.out.2.2.2.2.2.1 hXw6.size
        have hyn:y.name.length≤9223372036854775807:=by have:=(HOK.out (y.kind,y.name,y.text,P) (by rw[←HS.out.1,rowsD_eq];simp)).1;simp only at this;omega
        obtain⟨gp,op,rfl,lgp,_⟩:=str_at HV.out.2.2.2 0 hn0
        have HX6:=Lh (And.intro hX6 (And.intro hX6w (And.intro hXz6 hXw6)))
        clear s0 s1 hX6 hX6w hXz6 hXw6 r2 r3 HND
        go_wp2_with fail
        clear r4 hcat
        obtain⟨s0,si,sz0,sz1,sz2⟩:=info_parts infoString
        have HPL:=Lh (strs_len HV.out.2.2.2)
        have hnl:names.length≤1048576:=by have:=HW.out.2.2.2;omega
        refine rg_begin (S:=Sx w6) kB (Sx.begin _) ?_
        have hS:Sx w6 (World.drew w6):=(Sx.begin _)
        refine gT 1 105 (.slice (some ⟨gp,op,none⟩) names.length nc) hS ?_
        simp only[Act.put,sA,sZ,sS]
        refine gT 3 107 (.pointer (some ⟨w.heap.size,4,none⟩)) hS ?_
        simp only[Act.put,sA,sZ,sS]
        refine gT 4 108 (.slice (some ⟨gk,ok,none⟩) n.kids.length ck) hS ?_ (hv:=fun w' hs=>by(have h0:=hs.cell hbl6 c4';go_simp))
        simp only[Act.put,sA,sZ,sS]
        refine gT 5 109 (.int .i64 j) hS ?_
        simp only[Act.put,sA,sZ,sS]
        refine gT 6 110 (.pointer (some ⟨gk,ok+j*5,none⟩)) hS ?_
        simp only[Act.put,sA,sZ,sS]
        refine gT 7 111 (.pointer (some ⟨gk,ok+j*5+1,none⟩)) hS ?_
        simp only[Act.put,sA,sZ,sS]
        refine gT 8 112 (.string (bs y.name)) hS ?_ (hv:=fun w' hs=>by(have h0:=hs.cell lgk6 m1;go_simp))
        simp only[Act.put,sA,sZ,sS]
        refine rg_two 0 9 kB ?_ ?_
        refine tk_new 0 (some 104) (.cells #[] 9) (fun n=> .slice (some ⟨n,0,none⟩) 0 0) rfl rfl (by rfl) kF ?_
        intro ga xa ega hxa hzxa hga
        have hSa:Sx w6 xa:=hS.ext hxa
        refine⟨hSa,?_⟩
        simp only[Act.put,sA,sZ,sS]
        have own20:xa.ownsRow w6.heap.size 9 1 (.slice (some ⟨ga,0,none⟩) 0 0) 0 []:=own_empty (by rw[ega];exact(show Ext w6 _ from hS).size) hga
        refine rg_two 2 9 kB ?_ ?_
        refine tk_app 2 (some 106) rfl rfl (by rfl) (.tmp 104) (.tmp 105) 27 rfl w6.heap.size 9 s0 (.string ⟨#[]⟩) 1 16 Tryz.underlying27 si sz0 sz1 sz2 rfl kD _ 0 [] rfl own20 ⟨gp,op,none⟩ names.length nc (names.map fun x=>Value.string (bs x)) rfl kI (strs_cells (HV.out.2.2.2.ext (HX6.out.2.2.2.trans hSa))) kR kC kA (show Ext w6 _ from hSa).size ?_
        intro v22 xc hr22 hg22 ha22
        have hSc:Sx w6 xc:=sx_grown hSa own20 hg22
        refine⟨hSc,?_⟩
        simp only[Act.put,sA,sZ,sS]
        have own22:xc.ownsRow w6.heap.size 9 1 v22 names.length (names.map fun x=>Value.string (bs x)):=by rw[Nat.zero_add,List.nil_append]at hr22;exact hr22
        refine rg_one 9 kB ?_
        refine tk_new 9 (some 113) (.cells #[.string (bs y.name)] 9) (fun n=> .slice (some ⟨n,0,none⟩) 1 1) rfl rfl (by rfl) kF ?_
        intro gb xb egb hxb hzxb h29
        have hSb:Sx w6 xb:=hSc.ext hxb
        refine⟨hSb,?_⟩
        simp only[Act.put,sA,sZ,sS]
        have own22':=rows_ext own22 hxb
        clear own22
        have own22:=own22'
        clear own22'
        have cell29:=blk_cell (k:=0) h29 rfl
        refine rg_one 10 kB ?_
        refine tk_app 10 (some 114) rfl rfl (by rfl) (.tmp 106) (.tmp 113) 27 rfl w6.heap.size 9 s0 (.string ⟨#[]⟩) 1 16 Tryz.underlying27 si sz0 sz1 sz2 rfl kD _ names.length (names.map fun x=>Value.string (bs x)) rfl own22 ⟨gb,0,none⟩ 1 1 [.string (bs y.name)] rfl rfl kO kE kC kA (show Ext w6 _ from hSb).size ?_
        intro v30 xd hr30 hg30 ha30
        have hSd:Sx w6 xd:=sx_grown hSb own22 hg30
        refine⟨hSd,?_⟩
        simp only[Act.put,sA,sZ,sS]
        have hrep30:Rep xd (fun b=>False∨w6.heap.size≤b) v30 (strsD (names++ [y.name])):=Own.rep (p:=fun _=>False) (e:=9) (n:=names.length+1) ⟨_,hr30,by have:=strs_reps xd (fun b=>False∧some b≠v30.ownBlock∧b< xd.heap.size) (names++ [y.name]) (fun i hi=>by rw[List.getElem_append];split;exact HPL.out _ _;simpa using hyn);rw[List.map_append]at this;exact this⟩
        refine gT 11 19 (v30) hSd ?_
        simp only[Act.put,sA,sZ,sS]
        refine rg_done kB ?_
        rotate_left
        refine tk_new 9 (some 113) (.cells #[.string (bs y.name)] 9) (fun n=> .slice (some ⟨n,0,none⟩) 1 1) rfl rfl (by rfl) kF ?_
        intro gb xb egb hxb hzxb h29
        have hSb:Sx w6 xb:=hSa.ext hxb
        refine⟨hSb,?_⟩
        simp only[Act.put,sA,sZ,sS]
        have own20':=rows_ext own20 hxb
        clear own20
        have own20:=own20'
        clear own20'
        have cell29:=blk_cell (k:=0) h29 rfl
        have l29:=blk_lt h29
        have ne29:gb≠ga:=by have:=blk_lt hga;omega
        refine rg_one 2 kB ?_
        refine tk_app 2 (some 106) rfl rfl (by rfl) (.tmp 104) (.tmp 105) 27 rfl w6.heap.size 9 s0 (.string ⟨#[]⟩) 1 16 Tryz.underlying27 si sz0 sz1 sz2 rfl kD _ 0 [] rfl own20 ⟨gp,op,none⟩ names.length nc (names.map fun x=>Value.string (bs x)) rfl kI (strs_cells (HV.out.2.2.2.ext (HX6.out.2.2.2.trans hSb))) kR kC kA (show Ext w6 _ from hSb).size ?_
        intro v22 xc hr22 hg22 ha22
        have hSc:Sx w6 xc:=sx_grown hSb own20 hg22
        refine⟨hSc,?_⟩
        simp only[Act.put,sA,sZ,sS]
        have own22:xc.ownsRow w6.heap.size 9 1 v22 names.length (names.map fun x=>Value.string (bs x)):=by rw[Nat.zero_add,List.nil_append]at hr22;exact hr22
        have cell29':=hg22.cell cell29 (by intro e;exact ne29 (Option.some.inj e))
        clear cell29
        have cell29:=cell29'
        clear cell29'
        refine rg_one 10 kB ?_
        refine tk_app 10 (some 114) rfl rfl (by rfl) (.tmp 106) (.tmp 113) 27 rfl w6.heap.size 9 s0 (.string ⟨#[]⟩) 1 16 Tryz.underlying27 si sz0 sz1 sz2 rfl kD _ names.length (names.map fun x=>Value.string (bs x)) rfl own22 ⟨gb,0,none⟩ 1 1 [.string (bs y.name)] rfl rfl kO kE kC kA (show Ext w6 _ from hSc).size ?_
        intro v30 xd hr30 hg30 ha30
        have hSd:Sx w6 xd:=sx_grown hSc own22 hg30
        refine⟨hSd,?_⟩
        simp only[Act.put,sA,sZ,sS]
        have hrep30:Rep xd (fun b=>False∨w6.heap.size≤b) v30 (strsD (names++ [y.name])):=Own.rep (p:=fun _=>False) (e:=9) (n:=names.length+1) ⟨_,hr30,by have:=strs_reps xd (fun b=>False∧some b≠v30.ownBlock∧b< xd.heap.size) (names++ [y.name]) (fun i hi=>by rw[List.getElem_append];split;exact HPL.out _ _;simpa using hyn);rw[List.map_append]at this;exact this⟩
        refine gT 11 19 (v30) hSd ?_
        simp only[Act.put,sA,sZ,sS]
        refine rg_done kB ?_
        rotate_left
        refine tk_new 9 (some 113) (.cells #[.string (bs y.name)] 9) (fun n=> .slice (some ⟨n,0,none⟩) 1 1) rfl rfl (by rfl) kF ?_
        intro gb xb egb hxb hzxb h29
        have hSb:Sx w6 xb:=hS.ext hxb
        refine⟨hSb,?_⟩
        simp only[Act.put,sA,sZ,sS]
        refine rg_one 0 kB ?_
        refine tk_new 0 (some 104) (.cells #[] 9) (fun n=> .slice (some ⟨n,0,none⟩) 0 0) rfl rfl (by rfl) kF ?_
        intro ga xa ega hxa hzxa hga
        have hSa:Sx w6 xa:=hSb.ext hxa
        refine⟨hSa,?_⟩
        simp only[Act.put,sA,sZ,sS]
        have own20:xa.ownsRow w6.heap.size 9 1 (.slice (some ⟨ga,0,none⟩) 0 0) 0 []:=own_empty (by rw[ega];exact(show Ext w6 _ from hSb).size) hga
        have hgc:=(show Ext _ xa from hxa)
        have cell29:=hgc.keep (blk_lt h29) (blk_cell (k:=0) h29 rfl)
        have l29:gb< xa.heap.size:=Nat.lt_of_lt_of_le (blk_lt h29) hgc.size
        have ne29:gb≠ga:=by have:=blk_lt h29;omega
        clear hgc
        refine rg_one 2 kB ?_
        refine tk_app 2 (some 106) rfl rfl (by rfl) (.tmp 104) (.tmp 105) 27 rfl w6.heap.size 9 s0 (.string ⟨#[]⟩) 1 16 Tryz.underlying27 si sz0 sz1 sz2 rfl kD _ 0 [] rfl own20 ⟨gp,op,none⟩ names.length nc (names.map fun x=>Value.string (bs x)) rfl kI (strs_cells (HV.out.2.2.2.ext (HX6.out.2.2.2.trans hSa))) kR kC kA (show Ext w6 _ from hSa).size ?_
        intro v22 xc hr22 hg22 ha22
        have hSc:Sx w6 xc:=sx_grown hSa own20 hg22
        refine⟨hSc,?_⟩
        simp only[Act.put,sA,sZ,sS]
        have own22:xc.ownsRow w6.heap.size 9 1 v22 names.length (names.map fun x=>Value.string (bs x)):=by rw[Nat.zero_add,List.nil_append]at hr22;exact hr22
        have cell29':=hg22.cell cell29 (by intro e;exact ne29 (Option.some.inj e))
        clear cell29
        have cell29:=cell29'
        clear cell29'
        refine rg_one 10 kB ?_
        refine tk_app 10 (some 114) rfl rfl (by rfl) (.tmp 106) (.tmp 113) 27 rfl w6.heap.size 9 s0 (.string ⟨#[]⟩) 1 16 Tryz.underlying27 si sz0 sz1 sz2 rfl kD _ names.length (names.map fun x=>Value.string (bs x)) rfl own22 ⟨gb,0,none⟩ 1 1 [.string (bs y.name)] rfl rfl kO kE kC kA (show Ext w6 _ from hSc).size ?_
        intro v30 xd hr30 hg30 ha30
        have hSd:Sx w6 xd:=sx_grown hSc own22 hg30
        refine⟨hSd,?_⟩
        simp only[Act.put,sA,sZ,sS]
        have hrep30:Rep xd (fun b=>False∨w6.heap.size≤b) v30 (strsD (names++ [y.name])):=Own.rep (p:=fun _=>False) (e:=9) (n:=names.length+1) ⟨_,hr30,by have:=strs_reps xd (fun b=>False∧some b≠v30.ownBlock∧b< xd.heap.size) (names++ [y.name]) (fun i hi=>by rw[List.getElem_append];split;exact HPL.out _ _;simpa using hyn);rw[List.map_append]at this;exact this⟩
        refine gT 11 19 (v30) hSd ?_
        simp only[Act.put,sA,sZ,sS]
        refine rg_done kB ?_
        rotate_left
        all_goals
         have hXd:Ext w6 xd:=hSd
         have hXwd:=HX6.out.2.2.2.trans hXd
         have n0:=hXwd.keep HDD.out.2.2.2.2.2.1 HDD.out.1
         have n1:=hXwd.keep HDD.out.2.2.2.2.2.1 HDD.out.2.1
         have n2:=hXwd.keep HDD.out.2.2.2.2.2.1 HDD.out.2.2.1
         have n3:=hXwd.keep HDD.out.2.2.2.2.2.1 HDD.out.2.2.2.1
         have n4:=hXwd.keep HDD.out.2.2.2.2.2.1 HDD.out.2.2.2.2.1
         have k4':=(HX6.out.2.2.1.trans hXd).keep hbl (blk_cells HB.out 4 rfl)
         have HNX:=Lh (IH.out y p _ (a+M.length) a P (names++ [y.name]) _ _ _ xd (by have:=HW.out.2.1;have:=HS.out.2.2.2.1;omega) (by have:=HW.out.2.2.1;have:=HS.out.2.2.2.2.1;have:=cntN_own n;omega) (by have:=HW.out.2.1;have:=HW.out.2.2.2;have:=HS.out.2.2.2.1;rw[List.length_append];simp only[List.length_cons,List.length_nil];omega) (HV.out.1.ext hXwd) (HDD.out.2.2.2.2.2.2.1.ext hXwd) (HDD.out.2.2.2.2.2.2.2.ext hXwd) hrep30 (fun _=>HS.out.2.2.2.2.2) kA (by have:=HA1.out.2;have:=HS.out.2.2.1;omega) (fun r hr=>HOK.out r qA))
         have HO5:=Lh (rows_ext HO.out.1 ((HX45.out.2.trans HX6.out.1).trans hXd))
         have HX5:=Lh (HX6.out.2.1.trans hXd)
         obtain⟨_,_,rfl⟩:=own_slice hr30
         clear hSd hXd hXwd hr30 hg30 ha30 hrep30 m0 m1 m2 m3 m4 c4' own22 cell29 h29 hga
         go_wp2_with fail
         refine HNX.out.mono ?_
         rintro e w8 ⟨M2,rv2,rfl,h2o,hM2,hX8⟩
         have h2l:M2.length=(rowsD l y P (names++ [y.name])).length:=by rw[←hM2,List.length_map]
         have h20:0< M2.length:=by
          have:=congrArg List.length (rowsD_eq l y P (names++ [y.name]))
          rw[List.length_append,List.length_cons]at this
          omega
         have hMM:(M.length:Int)+M2.length≤4194304:=by have:=HA1.out.2;have:=HS.out.2.2.1;omega
         obtain⟨g2,c2,rfl,_,_⟩:=own_pos h2o h20
         have HO6:=Lh (And.intro (rows_ext HO5.out hX8) (And.intro h2o hM2))
         have HX8:=Lh (HX5.out.trans hX8)
         have hwz8:wz.heap.size≤w8.heap.size:=(HX.out.1.trans HX8.out).size
         clear HNX h2o hM2 hX8 n0 n1 n2 n3 n4 HO5 HX5 h2l h20 k4'
         go_wp2_with (at_builtin;refine wpList_append_own_at _ rfl (.tmp 115) (.tmp 129) _ rfl wz.heap.size 81 i0 (.agg #[.int .i64 0,.string ⟨#[]⟩,.string ⟨#[]⟩,.int .i64 0,.int .i64 0,.string ⟨#[]⟩]) 6 72 Tryz.underlying72 hin0 hq0 hq1 hq2 rfl kD (.slice (some ⟨g,0,none⟩) M.length cm) M.length (M.flatMap qnV) rfl HO6.out.1 ⟨g2,0,none⟩ M2.length c2 (M2.flatMap qnV) rfl (qnV_len M2) (HO6.out.2.1.cells (g:=g2) rfl) (one_qns M2) kC kA hwz8 ?_;intro v7 w7 hown7 hgrow7 _ hat7;have HO7:=Lh (And.intro hown7 (And.intro hgrow7 hat7));clear hown7 hgrow7 hat7)
         have HX7:=Lh (And.intro (show Ext wz w7 from Below.grown (HX.out.1.trans HX8.out) HO7.out.2.1 hwz8 fun k hk=>(HO6.out.1.lt k hk).1) (KS.grown HX.out.2 rfl HX8.out HO7.out.2.1 HO7.out.2.2))
         go_roundw
         case rel=>exact⟨j+1,M++M2,by go_num,by omega,by rw[List.length_append];omega,Lh ⟨by rw[List.length_append,List.flatMap_append];exact HO7.out.1,by rw[HS.out.2.1,List.map_append,HO6.out.2.2,List.append_assoc,HS.out.1]⟩,HX7⟩
         case measure=>exact mZ
       ·
        have hlI:¬(j:Int)< (n.kids.length:Int):=by omega
        have hF:=HO.out
        rw[List.drop_of_length_le kA,rowsL,List.append_nil]at hF
        obtain⟨q0,Mr,hM⟩:∃q r,M=q::r:=by
         cases M with
         | nil=>simp at hM1
         | cons q r=>exact⟨q,r,rfl⟩
        have e4:wr.cell? ⟨g,4,none⟩=some (.int .i64 q0.fin):=by
         rw[HO.out.1.cellAt 4 kA,hM];rfl
        have f4:=HO.out.1.frozenAt 4
        have hM0':(0:Int)< (M.length:Int):=by omega
        have hw1:IntKind.i64.wrap (a+(M.length:Int))=a+M.length:=IntWalk.i64_in _ kA
        have HM:=Lh hM
        have HF:=Lh hF
        clear hM hF HO
        go_wp2_with fail
        go_ret
        have h1:=(HF.out.1.stored 4 (.int .i64 (a+M.length))).1
        have e1:(M.flatMap qnV).set 4 (.int .i64 (a+M.length))=({q0 with fin:=a+M.length}::Mr).flatMap qnV:=by
         obtain⟨m,hm⟩:∃m:Int,a+M.length=m:=⟨_,rfl⟩
         rw[hm,HM.out];rfl
        have e2:({q0 with fin:=a+M.length}::Mr).length=M.length:=by rw[HM.out];rfl
        rw[e1]at h1
        refine⟨{q0 with fin:=a+M.length}::Mr,_,rfl,?_,?_,?_⟩
        ·
         rw[e2]
         exact rows_low h1 HE.out.size
        ·
         have h3:=HF.out.2
         rw[HM.out]at h3
         rw[←h3];rfl
        ·
         exact HE.out.trans (HG.out.2.2.2.set (p:=⟨g,4,none⟩) HG.out.1 _)
end Go.Proofs.YtngmgjodcnknoaaGreatDoor
