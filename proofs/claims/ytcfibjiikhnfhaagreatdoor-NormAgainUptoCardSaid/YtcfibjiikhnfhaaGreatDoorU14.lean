/-
 norm:the former's children. Helper lemmas;no statement of the seat is proved here.
-/
import Derived.Test.YtcfibjiikhnfhaaGreatDoorU13
import Derived.Deep.DeepCutAuto
namespace Go.Proofs.YtcfibjiikhnfhaaGreatDoor
open Go.RowKit
set_option maxHeartbeats 32000000
set_option maxRecDepth 100000
set_option linter.unusedVariables false
set_option linter.unusedSimpArgs false
theorem rows_exc {g:Nat} {w w':World} {base z n:Nat} {e:TypeId} {v:Value} {us:List Value} (h:w.ownsRow base e z v n us) (hX:Exc g w w') (hg:g< base):w'.ownsRow base e z v n us:=by
 refine⟨h.1,?_⟩
 rcases h.2 with h | ⟨k,cap,cur,hv,hb,hk,h⟩
 ·
  exact .inl h
 ·
  exact .inr ⟨k,cap,cur,hv,hb,by rw[hX.2 k (by omega) (blk_lt hk)];exact hk,h⟩
theorem Own.exc {g:Nat} {w w':World} {p:Nat→Prop} {base z n:Nat} {e:TypeId} {v:Value} {es:List DV} (h:Own w p base e z v n es) (hX:Exc g w w') (hg:g< base) (hp:∀b,p b→b≠g):Own w' p base e z v n es:=by
 obtain⟨us,h1,h2⟩:=h
 exact⟨us,rows_exc h1 hX hg,(h2.kept fun b hb hlt=>hX.2 b (hp b hb.1) hlt).ok fun b hb=>⟨hb.1,hb.2.1,Nat.lt_of_lt_of_le hb.2.2 hX.1⟩⟩
theorem Exc.grown {g:Nat} {a w w':World} {row:Option Nat} (h:Exc g a w) (hg:w.grownBy w' row) (hr:∀k,row=some k→a.heap.size≤k):Exc g a w':=
 ⟨Nat.le_trans h.1 hg.size,fun b h1 h2=>(hg.block b (Nat.lt_of_lt_of_le h2 h.1) fun e=>by have:=hr b e.symm;omega).trans (h.2 b h1 h2),hg.os.trans h.3.1,hg.tape.trans h.3.2.1,hg.output.trans h.3.2.2⟩
def KdR (W:World) (g:Nat) (lv:Value) (r:(Int×Int) ⊕ List (Step×Node)) (nx:Int) (e:Ending) (w':World):Prop:=Exc g W w'∧match r with
 | .inl c=>∃v,e= .returned (.tuple #[.slice none 0 0,v])∧ErrV w' W.heap.size c.1 c.2 v
 | .inr L=>FB w' g lv nx∧∃v,e= .returned (.tuple #[v,.nilIface])∧L.length≤1048576∧Own w' (fun b=>W.heap.size≤b) W.heap.size 98 7 v L.length (L.flatMap keyedC)
theorem childP_bd {l:List Rule} {k:Node} {path:List Bytes} {at':Int} {x:Step×Node} (h:childP l k path at'= .inr x):x.1.n=k.name∧cntN x.2≤cntN k:=by
 unfold childP at h
 split at h
 ·
  cases h
 ·
  split at h
  ·
   cases h
  ·
   split at h
   ·
    cases h
   ·
    cases h
    exact⟨rfl,cnt_normN l k path at'⟩
theorem infoKeyed:(Tryz.prog.info? 98).map (fun i=>(i.zero,i.size,i.bytes))=some (some (.agg #[.string ⟨#[]⟩,.slice none 0 0,.int .i64 0,.string ⟨#[]⟩,.string ⟨#[]⟩,.slice none 0 0,.slice none 0 0]),7,128):=by kernel_rfl
theorem children_step (l:List Rule) (N:Nat) (ih:ElemP l N) (n:Node) (path:List Bytes) (W:World) (g:Nat) (lv vp va vk:Value) (first:Int) (p q s:Nat→Prop) (hN:nsz n≤N) (hk1:n.kind=1) (hf0:0≤first) (hf1:first+elemsN n≤4194304) (H:FH l n path W g lv vp va vk (first+1) p q s):
  Calls Tryz.prog 49 #[.pointer (some ⟨g,0,none⟩),.agg #[.int .i64 n.kind,.string (bs n.name),.string (bs n.text),va,vk],vp] W fun e w'=>KdR W g lv (kidsP l path first n.kids (first+1) []) (first+elemsN n) e w':=by
 obtain⟨pa,pc,rfl,hpc1,hpc2⟩:=H.hp.count z_str (by omega)
 obtain⟨ba,ca,rfl,_,_⟩:=H.ha.count z_attr (by omega)
 obtain⟨bk,ck,rfl,_,_⟩:=H.hk.count z_node (by omega)
 obtain⟨R,hR⟩:∃R,kidsP l path first n.kids (first+1) []=R:=⟨_,rfl⟩
 rw[hR]
 obtain⟨i0,hi,hz0,hz1,hz2⟩:=info_parts infoStr
 obtain⟨j0,ji,jz0,jz1,jz2⟩:=info_parts infoKeyed
 obtain⟨ks,hks⟩:∃l,n.kids=l:=⟨_,rfl⟩
 have hcl:=cntL_len n.kids
 have hck:=cnt_kids n
 have hcn:=H.cnt
 have hel:=elemsN_1 n hk1
 have hpl:=H.pl
 have hkd:=H.hk
 rw[hks]at hR hcl hck hel hkd⊢
 obtain⟨F1,hF1⟩:∃z,first+1=z:=⟨_,rfl⟩
 obtain⟨w1,hw1⟩:∃X,W.alloc (.cells #[.int .i64 n.kind,.string (bs n.name),.string (bs n.text),.slice ba n.attrs.length ca,.slice bk ks.length ck] 26)=X:=⟨_,rfl⟩
 obtain⟨gk,hgk⟩:∃x,W.heap.size=x:=⟨_,rfl⟩
 have hE1:Ext W w1:=by rw[←hw1];exact(Ext.refl W).alloc _
 have hb1:B5 w1 gk n (.slice ba n.attrs.length ca) (.slice bk ks.length ck):=by rw[←hw1,←hgk];exact b5_box W n _ _
 have hfb:=H.fb.ext hE1
 rw[hF1]at hfb
 have r1:=hfb.c1
 have n4:=hb1.c4
 have hF2:F1 - 1=first:=by omega
 have hF3:IntKind.i64.wrap first=first:=by rw[IntKind.wrap_i64];omega
 have HH:=Lh (show FH l n path W g lv (.slice pa path.length pc) (.slice ba n.attrs.length ca) (.slice bk ks.length ck) F1 p q s∧nsz n≤N∧n.kids=ks∧0≤first∧first+elemsN n≤4194304∧elemsN n=1+elemsL ks∧first+1=F1∧Rep W p (.slice bk ks.length ck) (nodesD ks) from⟨by rw[←hF1,←hks];exact H,hN,hks,hf0,hf1,hel,hF1,hkd⟩)
 have hpl2:path.length≤4194304:=by omega
 have hkl:ks.length≤1048576:=by omega
 have HR:Hid (kidsP l path first (ks.drop 0) F1 []=R):=Lh (by rw[←hF1];exact hR)
 have HW:=Lh (And.intro hw1 hgk)
 have HFB:=Lh (And.intro hfb hE1)
 have hlg:=H.fb.lt
 clear hR hks hcl hck hcn hel hpl hkd hF1 hw1 hgk hE1 hb1 hfb H hN hk1 hf0 hf1
 go_enter Tryz.func49,Tryz.ntmps49
 go_upto_region 1 with fail
 rw[HW.out.1,HW.out.2]
 go_wp2_with fail
 clear r1 n4 hF2 hF3
 go_loopw [9,11,12,13,14,23] (fun o _ _ _ _ t wr=>∃(i:Nat) (acc:List (Step×Node)) (dv:Value),t= .int .i64 i∧dv=o∧i≤ks.length∧acc.length≤i∧Hid (Exc g W wr)∧Hid (FB wr g lv (F1+elemsL (ks.take i))∧Own wr (fun b=>W.heap.size≤b) W.heap.size 98 7 dv acc.length (acc.flatMap keyedC)∧kidsP l path first (ks.drop i) (F1+elemsL (ks.take i)) acc=R)) (fun _ _ _ _ _ t _=>downV ks.length t)
 case atStart=>exact⟨0,[],_,rfl,rfl,Nat.zero_le _,Nat.le_refl _,Lh ((Exc.refl g W).ext HFB.out.2),Lh ⟨by rw[List.take_zero,elemsL];simpa using HFB.out.1,Own.nil _ _ _ _ _,by rw[List.take_zero,elemsL];simpa using HR.out⟩⟩
 case round=>
  clear HR HFB
  obtain⟨i,acc,dv,rfl,rfl,hi2,hacc,HX,HI⟩:=hrel
  have hi0:(0:Int)≤(i:Int):=by omega
  by_cases hlt:i< ks.length
  ·
   have hlI:(i:Int)< (ks.length:Int):=by omega
   obtain⟨gs,os,za,zk,rfl,lgs,_,d0,d1,d2,d3,d4,hza,hzk⟩:=node_at (HH.out.2.2.2.2.2.2.2.exc HH.out.1.pg HX.out) i hlt
   have hnl:=node_len HH.out.2.2.2.2.2.2.2 i hlt
   have hmem:=List.getElem_mem hlt
   have hcy:=kid_le ks i hlt
   have hst:=elemsL_step ks i hlt
   have hle:=elemsL_le ks (i+1)
   have HS:Hid (kidsP l path first (ks.drop i) (F1+elemsL (ks.take i)) acc=if ks[i].kind=2∧trimB ks[i].text≠ []then .inl (24,first)else if ks[i].kind≠1 then kidsP l path first (ks.drop (i+1)) (F1+elemsL (ks.take i)) acc else match childP l ks[i] (path++ [ks[i].name]) (F1+elemsL (ks.take i))with
    | .inl e=> .inl e
    | .inr x=>if acc.any (fun y=>stepB y.1 x.1)=true then .inl (23,F1+elemsL (ks.take i))else kidsP l path first (ks.drop (i+1)) (F1+elemsL (ks.take i)+elemsN ks[i]) (acc++ [x])):=Lh (by rw[drop_one ks i hlt,kidsP];rfl)
   obtain⟨y,hy⟩:∃y,ks[i]=y:=⟨_,rfl⟩
   rw[hy]at d0 d1 d2 hza hzk hnl hmem hst hcy HS
   obtain⟨zab,zac,rfl,_,_⟩:=hza.count z_attr (by omega)
   obtain⟨zkb,zkc,rfl,_,_⟩:=hzk.count z_node (by omega)
   have hn9:=HH.out
   rw[←hn9.2.2.1]at hmem
   have hnz:=nsz_mem n y hmem
   have hcn:=hn9.1.cnt
   have hck:=cnt_kids n
   rw[hn9.2.2.1]at hck
   have hndy:=ndL_mem _ y ((ndN_eq n).1 hn9.1.nd).2 hmem
   obtain⟨A2,hA2⟩:∃z:Int,F1+(elemsL (ks.take i):Int)=z:=⟨_,rfl⟩
   have hnx:F1+(elemsL (ks.take (i+1)):Int)=A2+elemsN y:=by rw[hst];omega
   have hA0:0≤A2∧A2+elemsN y≤4194304:=by rw[←hnx];omega
   have HI2:=HI.out
   rw[hA2]at HI2 HS
   obtain⟨w5,hw5⟩:∃X,wr.alloc (.cells #[.int .i64 y.kind,.string (bs y.name),.string (bs y.text),.slice zab y.attrs.length zac,.slice zkb y.kids.length zkc] 26)=X:=⟨_,rfl⟩
   obtain⟨g5,hg5⟩:∃x,wr.heap.size=x:=⟨_,rfl⟩
   have hE5:Ext wr w5:=by rw[←hw5];exact(Ext.refl wr).alloc _
   have hb5:B5 w5 g5 y (.slice zab y.attrs.length zac) (.slice zkb y.kids.length zkc):=by rw[←hw5,←hg5];exact b5_box wr y _ _
   have HB5:=Lh hb5
   have hXr:=HX.out
   have hX5:Exc g W w5:=hXr.ext hE5
   have hF5:=HI2.1.ext hE5
   have hO5:=Own.ext HI2.2.1 hE5
   have hlr:g< wr.heap.size∧W.heap.size≤wr.heap.size:=⟨Nat.lt_of_lt_of_le hlg hXr.1,hXr.1⟩
   have l5:=hb5.lt
   have n5:g5≠g:=by omega
   have lg5:g< w5.heap.size:=hF5.lt
   have n0:=hb5.c0;have n1:=hb5.c1;have n2:=hb5.c2;have n3:=hb5.c3;have n4:=hb5.c4
   have r1:=hF5.c1
   have hpath:=hn9.1.hp.exc hn9.1.sg hX5
   have hFHk:Hid (∀X vq,Ext w5 X→Rep X (fun b=>w5.heap.size≤b) vq (strsD (path++ [y.name]))→FH l y (path++ [y.name]) X g lv vq (.slice zab y.attrs.length zac) (.slice zkb y.kids.length zkc) A2 p q (fun b=>w5.heap.size≤b)):=Lh fun X vq hE hq=>{
    cnt:=by omega
    nd:=hndy
    rb:=hn9.1.rb
    pl:=by rw[List.length_append,List.length_singleton];have:=hn9.1.pl;omega
    pb:=fun x hx=>by
     rcases List.mem_append.1 hx with hx | hx
     ·
      exact hn9.1.pb x hx
     ·
      simp at hx;subst hx;exact hnl.1
    en:=hn9.1.gE _ (hX5.ext hE)
    fb:=hF5.ext hE
    hl:=(hn9.1.hl.exc hn9.1.qg hX5).ext hE
    hp:=hq
    ha:=hza.ext (hE5.trans hE)
    hk:=hzk.ext (hE5.trans hE)
    pg:=hn9.1.pg
    qg:=hn9.1.qg
    sg:=fun b hb=>by have hb':w5.heap.size≤b:=hb;omega
    gE:=fun X' hX'=>hn9.1.gE X' (YY.Exc.trans' (hX5.ext hE) hX')}
   have HT:=Lh (trim_any y.text w5 (by have:=cntN_own y;omega))
   have HS5:=Lh (show Exc g W w5∧FB w5 g lv A2∧Own w5 (fun b=>W.heap.size≤b) W.heap.size 98 7 dv acc.length (acc.flatMap keyedC)∧kidsP l path first (ks.drop i) A2 acc=R∧wr.heap.size≤w5.heap.size∧(∀b,dv.ownBlock=some b→W.heap.size≤b∧b< wr.heap.size) from⟨hX5,hF5,hO5,HI2.2.2,hE5.size,fun b hb=>by obtain⟨us',h',_⟩:=HI2.2.1.rows;exact h'.lt b hb⟩)
   have HCL:Hid (∀X,Ext w5 X→Calls Tryz.prog 92 #[.slice pa path.length pc] X fun e w'=>(∃u,e= .returned u∧Own w' (fun b=>s b∧b< X.heap.size) X.heap.size 9 1 u path.length (path.flatMap fun x=> [strD x]))∧Ext X w'):=Lh fun X hE=>clonestr_own path s _ X (by omega) (hpath.ext hE)
   have hcn2:=hcy
   have HCN:Hid (cntN y≤1048576):=Lh (by omega)
   obtain⟨cr,hcr⟩:∃r,childP l y (path++ [y.name]) A2=r:=⟨_,rfl⟩
   rw[hcr]at HS
   have HCH:y.kind=1→Hid (∀X vq,Ext w5 X→Rep X (fun b=>w5.heap.size≤b) vq (strsD (path++ [y.name]))→Calls Tryz.prog 91 #[.pointer (some ⟨g,0,none⟩),.agg #[.int .i64 y.kind,.string (bs y.name),.string (bs y.text),.slice zab y.attrs.length zac,.slice zkb y.kids.length zkc],vq] X fun e w'=>∃(sq:Step) (nd:Node) (ka xa ya:Option Addr) (kn kc xn xc yn yc:Nat) (ev:Value),e= .returned (.tuple #[keyedV sq nd (.slice ka kn kc) (.slice xa xn xc) (.slice ya yn yc),ev])∧ChQ X g lv cr (A2+elemsN y) sq nd (.slice ka kn kc) (.slice xa xn xc) (.slice ya yn yc) ev w'):=fun hk=>Lh fun X vq hE hq=>
    (child_step l N ih y (path++ [y.name]) X g lv vq _ _ A2 p q _ (by omega) hk hA0.1 hA0.2 (hFHk.out X vq hE hq)).mono fun e w' h=>by rw[hcr]at h;exact chq_of h
   have HCB:=Lh hcr
   have HAN:=Lh (And.intro hA2 (And.intro hnx hA0))
   have HW5:=Lh (And.intro hw5 hg5)
   have hb8:acc.length≤1048576:=by omega
   clear hy hza hzk hmem hst hle hn9 hnz hcn hck hndy hA2 hnx hA0 HI2 hw5 hg5 hE5 hb5 hXr hX5 hF5 hO5 hpath hFHk HX HI hcr hcy hcn2
   go_upto_region 6 with fail
   rw[HW5.out.1,HW5.out.2]
   clear d0 d1 d2 d3 d4
   by_cases hk2:y.kind=2
   ·
    have q2:(y.kind==2)=true:=by rw[hk2];rfl
    have q1:(y.kind !=1)=true:=by rw[hk2];rfl
    obtain⟨T,hT⟩:∃T,trimB y.text=T:=⟨_,rfl⟩
    rw[hT]at HT HS
    clear hT HCH
    by_cases hT0:T= []
    ·
     have qt:(bs T).toList.isEmpty=true:=by rw[bs_toList,hT0];rfl
     have HN:Hid (kidsP l path first (ks.drop (i+1)) A2 acc=R):=Lh (by rw[←HS5.out.2.2.2.1,HS.out,if_neg (fun h=>h.2 hT0),if_pos (by rw[hk2];decide)])
     have hey:elemsN y=0:=elemsN_0 y (by rw[hk2];decide)
     have HEY:=Lh hey
     clear hk2 hT0 HS hey
     go_wp2_with fail
     refine HT.out.mono ?_
     rintro e w6 ⟨rfl,hX6⟩
     have hb6:=HB5.out.ext hX6
     have m0:=hb6.c0
     clear n0 n1 n2 n3 n4 r1 HT
     go_wp2_with fail
     go_roundw
     case rel=>exact⟨i+1,acc,dv,by go_num,rfl,by omega,by omega,Lh (HS5.out.1.ext hX6),Lh (by rw[HAN.out.2.1,HEY.out,show A2+((0:Nat):Int)=A2 by omega];exact⟨HS5.out.2.1.ext hX6,Own.ext HS5.out.2.2.1 hX6,HN.out⟩)⟩
     case measure=>simp only[downV];omega
    ·
     have qt:(bs T).toList.isEmpty=false:=by rw[bs_toList];exact isE_false hT0
     obtain rfl: .inl (24,first)=R:=by rw[←HS5.out.2.2.2.1,HS.out,if_pos ⟨hk2,hT0⟩]
     have HFA:=Lh fun X=>fail_any 24 first (by decide) X
     clear hk2 hT0 HS
     go_wp2_with fail
     refine HT.out.mono ?_
     rintro e w6 ⟨rfl,hX6⟩
     clear n0 n1 n2 n3 n4 r1 HT
     go_wp2_with fail
     refine(HFA.out _).mono ?_
     rintro e w7 ⟨⟨v,rfl,hv⟩,hX7⟩
     go_wp2_with fail
     go_ret2
     exact⟨(HS5.out.1.ext hX6).ext hX7,v,rfl,hv.low (by have:=HS5.out.1.1;have:=hX6.size;omega)⟩
   ·
    have q2:(y.kind==2)=false:=by rw[beq_eq_false_iff_ne];exact hk2
    by_cases hk1:y.kind=1
    ·
     have q1:(y.kind !=1)=false:=by rw[hk1];rfl
     replace HS:=Lh (HS5.out.2.2.2.1.symm.trans (HS.out.trans ((if_neg fun h=>hk2 h.1).trans (if_neg fun h=>h hk1))))
     replace HCH:=HCH hk1
     clear hk1 hk2 HT
     go_upto_region 10 with fail
     refine region_merge (fun ac ac' w'=>∃(u1:Value) (gb:Nat) (v4:Value) (sq:Step) (nd:Node) (ka xa ya:Option Addr) (kn kc xn xc yn yc:Nat) (ev:Value) (gz:Nat),ac'=((((((((((((((ac.put (some 46) (.pointer (some ⟨g,0,none⟩))).put (some 47) (.agg #[.int .i64 y.kind,.string (bs y.name),.string (bs y.text),.slice zab y.attrs.length zac,.slice zkb y.kids.length zkc])).put (some 48) (.slice pa path.length pc)).put (some 49) (u1)).put (some 50) (.pointer (some ⟨g5,1,none⟩))).put (some 51) (.string (bs y.name))).put (some 52) (.slice (some ⟨gb,0,none⟩) 1 1)).put (some 53) (v4)).put (some 54) (.tuple #[keyedV sq nd (.slice ka kn kc) (.slice xa xn xc) (.slice ya yn yc),ev])).put (some 45) (.tuple #[keyedV sq nd (.slice ka kn kc) (.slice xa xn xc) (.slice ya yn yc),ev])).put (some 55) (keyedV sq nd (.slice ka kn kc) (.slice xa xn xc) (.slice ya yn yc))).put (some 56) (ev)).put (some 13) (.pointer (some ⟨gz,0,none⟩))).put (some 14) (ev))∧ChT w5 g lv cr (A2+elemsN y) sq nd (.slice ka kn kc) (.slice xa xn xc) (.slice ya yn yc) ev gz w') ?_ ?_
     ·
      refine rg_begin (S:=Sg g w5) (by kernel_rfl) (Sg.begin _ _) ?_
      have hSq:Sg g w5 (World.drew w5):=(Sg.begin _ _)
      refine rg_t 0 (some 46) (.pointer (some ⟨g,0,none⟩)) rfl hSq (fun w' hs=>by rfl) ?_
      simp only[Act.put,sA,sZ,sS]
      refine rg_t 1 (some 47) (.agg #[.int .i64 y.kind,.string (bs y.name),.string (bs y.text),.slice zab y.attrs.length zac,.slice zkb y.kids.length zkc]) rfl hSq (fun w' hs=>by(have h0:=hs.cell ⟨l5,n5⟩ n0;have h1:=hs.cell ⟨l5,n5⟩ n1;have h2:=hs.cell ⟨l5,n5⟩ n2;have h3:=hs.cell ⟨l5,n5⟩ n3;have h4:=hs.cell ⟨l5,n5⟩ n4;go_simp)) ?_
      simp only[Act.put,sA,sZ,sS]
      refine rg_t 2 (some 48) (.slice pa path.length pc) rfl hSq (fun w' hs=>by rfl) ?_
      simp only[Act.put,sA,sZ,sS]
      refine rg_t 4 (some 50) (.pointer (some ⟨g5,1,none⟩)) rfl hSq (fun w' hs=>by first | rfl | go_simp) ?_
      simp only[Act.put,sA,sZ,sS]
      refine rg_t 5 (some 51) (.string (bs y.name)) rfl hSq (fun w' hs=>by(have h0:=hs.cell ⟨l5,n5⟩ n1;go_simp)) ?_
      simp only[Act.put,sA,sZ,sS]
      refine rg_three 3 6 12 (by kernel_rfl) ?_ ?_ ?_
      ·
       refine tk_call 3 (some 49) 92 #[.slice pa path.length pc] rfl rfl (by rfl) (fun w'=>by first | rfl | go_simp) (R:=fun v w'=>Own w' (fun b=>s b∧b< (World.drew w5).heap.size) w5.heap.size 9 1 v path.length (path.flatMap fun x=> [strD x])∧(∀b,v.ownBlock=some b→(World.drew w5).heap.size≤b)∧Ext (World.drew w5) w') ?_ ?_
       ·
        refine(HCL.out (World.drew w5) ((Ext.refl w5).drew)).mono ?_
        rintro e w' ⟨⟨u,rfl,hu⟩,hB⟩
        exact⟨_,rfl,Own.low hu (((Ext.refl w5).drew):Ext w5 _).size fun b hb=>hb,fun b hb=>by obtain⟨us',h',_⟩:=hu.rows;exact(h'.lt b hb).1,hB⟩
       rintro u1 x1 ⟨hou,hlo,hBa⟩
       have hEx1:Ext w5 x1:=(((Ext.refl w5).drew)).trans hBa
       have hSx1:Sg g w5 x1:=(Exc.refl g w5).ext hEx1
       refine⟨hSx1,?_⟩
       simp only[Act.put,sA,sZ,sS]
       refine rg_two 6 12 (by kernel_rfl) ?_ ?_
       ·
        refine tk_new 6 (some 52) (.cells #[.string (bs y.name)] 9) (fun n=> .slice (some ⟨n,0,none⟩) 1 1) rfl rfl (by rfl) (by first | rfl | go_simp) ?_
        intro gb xb egb hBb _ hgb
        have hExb:Ext w5 xb:=(hEx1).trans hBb
        have hSxb:Sg g w5 xb:=(Exc.refl g w5).ext hExb
        refine⟨hSxb,?_⟩
        simp only[Act.put,sA,sZ,sS]
        replace hou:=hou.ext hBb
        refine rg_two 7 12 (by kernel_rfl) ?_ ?_
        ·
         obtain⟨us,hrow,hreps⟩:=hou.rows
         have hlu:gb< xb.heap.size:=blk_lt hgb
         refine tk_src 7 (some 53) rfl rfl (by rfl) (.tmp 49) (.tmp 52) 51 rfl w5.heap.size 9 i0 (.string ⟨#[]⟩) 1 16 Tryz.underlying51 hi hz0 hz1 hz2 rfl (by decide) u1 path.length us rfl hrow (.slice (some ⟨gb,0,none⟩) 1 1) 1 [.string (bs y.name)] rfl (Src.block hgb rfl) (by intro u hu;simp at hu;rcases hu with rfl;rfl) (by unfold maxLen;omega) (by omega) (hExb:Ext w5 _).size ?_
         intro v4 x4 hr4 hg4 ha4
         have hEx4:Ext w5 x4:=sx_grown (hExb) hrow hg4
         have hSx4:Sg g w5 x4:=(Exc.refl g w5).ext hEx4
         refine⟨hSx4,?_⟩
         simp only[Act.put,sA,sZ,sS]
         have hrp:Rep x4 (fun b=>w5.heap.size≤b) v4 (strsD (path++ [y.name])):=by
          have hO:Own x4 (fun _=>False) w5.heap.size 9 1 v4 (path++ [y.name]).length ((path++ [y.name]).flatMap fun x=> [strD x]):=by
           rw[List.length_append,List.flatMap_append]
           exact Own.push (reps_strs hreps) (Reps.cons (Rep.string _ _ _ (by rw[bs_size];exact hnl.1)) (Reps.nil _ _)) hr4 hg4 ha4
          exact hO.rep.ok fun b hb=>hb.elim (fun h=>h.elim) id
         refine rg_two 8 12 (by kernel_rfl) ?_ ?_
         ·
          refine tk_call 8 (some 54) 91 #[.pointer (some ⟨g,0,none⟩),.agg #[.int .i64 y.kind,.string (bs y.name),.string (bs y.text),.slice zab y.attrs.length zac,.slice zkb y.kids.length zkc],v4] rfl rfl (by rfl) (fun w'=>by first | rfl | go_simp) (R:=fun v w'=>∃(sq:Step) (nd:Node) (ka xa ya:Option Addr) (kn kc xn xc yn yc:Nat) (ev:Value),v= .tuple #[keyedV sq nd (.slice ka kn kc) (.slice xa xn xc) (.slice ya yn yc),ev]∧ChQ x4 g lv cr (A2+elemsN y) sq nd (.slice ka kn kc) (.slice xa xn xc) (.slice ya yn yc) ev w') ?_ ?_
          ·
           exact(HCH.out x4 v4 hEx4 hrp).mono fun e w' ⟨sq,nd,ka,xa,ya,kn,kc,xn,xc,yn,yc,ev,he,hq⟩=>⟨_,he,sq,nd,ka,xa,ya,kn,kc,xn,xc,yn,yc,ev,rfl,hq⟩
          rintro _ wq ⟨sq,nd,ka,xa,ya,kn,kc,xn,xc,yn,yc,ev,rfl,hQ⟩
          have hSwq:Sg g w5 wq:=YY.Exc.trans' ((Exc.refl g w5).ext (hEx4)) hQ.1
          refine⟨hSwq,?_⟩
          simp only[Act.put,sA,sZ,sS]
          have hEW:Ext w5 x4:=hEx4
          have hXc:Ext wq wq:=Ext.refl _
          refine rg_t 9 (some 45) (.tuple #[keyedV sq nd (.slice ka kn kc) (.slice xa xn xc) (.slice ya yn yc),ev]) rfl hSwq (fun w' hs=>by rfl) ?_
          simp only[Act.put,sA,sZ,sS]
          refine rg_t 10 (some 55) (keyedV sq nd (.slice ka kn kc) (.slice xa xn xc) (.slice ya yn yc)) rfl hSwq (fun w' hs=>by first | rfl | go_simp) ?_
          simp only[Act.put,sA,sZ,sS]
          refine rg_t 11 (some 56) (ev) rfl hSwq (fun w' hs=>by first | rfl | go_simp) ?_
          simp only[Act.put,sA,sZ,sS]
          refine rg_one 12 (by kernel_rfl) ?_
          refine tk_new 12 (some 13) (.cells #[.string ⟨#[]⟩,.slice none 0 0,.int .i64 0,.string ⟨#[]⟩,.string ⟨#[]⟩,.slice none 0 0,.slice none 0 0] 98) (fun n=> .pointer (some ⟨n,0,none⟩)) rfl rfl (by rfl) (by first | rfl | go_simp) ?_
          intro gz xz egz hBz _ hgz
          have hkz:=k7_of hgz
          have hSxz:Sg g w5 xz:=Exc.ext hSwq hBz
          refine⟨hSxz,?_⟩
          simp only[Act.put,sA,sZ,sS]
          have hzq:wq.heap.size≤gz:=by rw[egz];exact hXc.size
          replace hXc:=hXc.trans hBz
          refine rg_one 13 (by kernel_rfl) ?_
          have hTT:=cht_after hQ hEW hzq lg5 hXc hkz
          refine tk_write 13 none (st7 xz gz sq nd (.slice ka kn kc) (.slice xa xn xc) (.slice ya yn yc)) (by rfl) rfl (by rfl) (exec_store rfl (store_keyed hkz _ _ _ _ _ _ _ _ _ _ _)) ?_
          have hSst:Sg g w5 (st7 xz gz sq nd (.slice ka kn kc) (.slice xa xn xc) (.slice ya yn yc)):=Exc.st7 hSxz hTT.2.1 _ _ _ _ _
          refine⟨hSst,?_⟩
          simp only[Act.put,sA,sZ,sS]
          refine rg_t 14 (some 14) (ev) rfl hSst (fun w' hs=>by rfl) ?_
          simp only[Act.put,sA,sZ,sS]
          refine rg_done (by kernel_rfl) ?_
          exact⟨u1,gb,v4,sq,nd,ka,xa,ya,kn,kc,xn,xc,yn,yc,ev,gz,(by first | rfl | simp only[Act.put,sA,sZ,sS]),hTT⟩
         ·
          refine tk_new 12 (some 13) (.cells #[.string ⟨#[]⟩,.slice none 0 0,.int .i64 0,.string ⟨#[]⟩,.string ⟨#[]⟩,.slice none 0 0,.slice none 0 0] 98) (fun n=> .pointer (some ⟨n,0,none⟩)) rfl rfl (by rfl) (by first | rfl | go_simp) ?_
          intro gz xz egz hBz _ hgz
          have hkz:=k7_of hgz
          have hExz:Ext w5 xz:=(hEx4).trans hBz
          have hSxz:Sg g w5 xz:=(Exc.refl g w5).ext hExz
          refine⟨hSxz,?_⟩
          simp only[Act.put,sA,sZ,sS]
          have hz5:w5.heap.size≤gz:=by rw[egz];exact(hEx4:Ext w5 _).size
          have hzl:gz< xz.heap.size:=blk_lt hgz
          replace hrp:=hrp.ext hBz
          refine rg_one 8 (by kernel_rfl) ?_
          refine tk_call 8 (some 54) 91 #[.pointer (some ⟨g,0,none⟩),.agg #[.int .i64 y.kind,.string (bs y.name),.string (bs y.text),.slice zab y.attrs.length zac,.slice zkb y.kids.length zkc],v4] rfl rfl (by rfl) (fun w'=>by first | rfl | go_simp) (R:=fun v w'=>∃(sq:Step) (nd:Node) (ka xa ya:Option Addr) (kn kc xn xc yn yc:Nat) (ev:Value),v= .tuple #[keyedV sq nd (.slice ka kn kc) (.slice xa xn xc) (.slice ya yn yc),ev]∧ChQ xz g lv cr (A2+elemsN y) sq nd (.slice ka kn kc) (.slice xa xn xc) (.slice ya yn yc) ev w') ?_ ?_
          ·
           exact(HCH.out xz v4 hExz hrp).mono fun e w' ⟨sq,nd,ka,xa,ya,kn,kc,xn,xc,yn,yc,ev,he,hq⟩=>⟨_,he,sq,nd,ka,xa,ya,kn,kc,xn,xc,yn,yc,ev,rfl,hq⟩
          rintro _ wq ⟨sq,nd,ka,xa,ya,kn,kc,xn,xc,yn,yc,ev,rfl,hQ⟩
          have hSwq:Sg g w5 wq:=YY.Exc.trans' ((Exc.refl g w5).ext (hExz)) hQ.1
          refine⟨hSwq,?_⟩
          simp only[Act.put,sA,sZ,sS]
          have hEW:Ext w5 xz:=hExz
          have hXc:Ext wq wq:=Ext.refl _
          have hzW:=hkz.lt
          replace hkz:=hkz.block hQ.1.1 (hQ.1.2 gz (by omega) hkz.lt)
          refine rg_t 9 (some 45) (.tuple #[keyedV sq nd (.slice ka kn kc) (.slice xa xn xc) (.slice ya yn yc),ev]) rfl hSwq (fun w' hs=>by rfl) ?_
          simp only[Act.put,sA,sZ,sS]
          refine rg_t 10 (some 55) (keyedV sq nd (.slice ka kn kc) (.slice xa xn xc) (.slice ya yn yc)) rfl hSwq (fun w' hs=>by first | rfl | go_simp) ?_
          simp only[Act.put,sA,sZ,sS]
          refine rg_t 11 (some 56) (ev) rfl hSwq (fun w' hs=>by first | rfl | go_simp) ?_
          simp only[Act.put,sA,sZ,sS]
          refine rg_one 13 (by kernel_rfl) ?_
          have hTT:=cht_before hQ hEW hz5 hzW lg5 hXc hkz
          refine tk_write 13 none (st7 wq gz sq nd (.slice ka kn kc) (.slice xa xn xc) (.slice ya yn yc)) (by rfl) rfl (by rfl) (exec_store rfl (store_keyed hkz _ _ _ _ _ _ _ _ _ _ _)) ?_
          have hSst:Sg g w5 (st7 wq gz sq nd (.slice ka kn kc) (.slice xa xn xc) (.slice ya yn yc)):=Exc.st7 hSwq hTT.2.1 _ _ _ _ _
          refine⟨hSst,?_⟩
          simp only[Act.put,sA,sZ,sS]
          refine rg_t 14 (some 14) (ev) rfl hSst (fun w' hs=>by rfl) ?_
          simp only[Act.put,sA,sZ,sS]
          refine rg_done (by kernel_rfl) ?_
          exact⟨u1,gb,v4,sq,nd,ka,xa,ya,kn,kc,xn,xc,yn,yc,ev,gz,(by first | rfl | simp only[Act.put,sA,sZ,sS]),hTT⟩
        ·
         refine tk_new 12 (some 13) (.cells #[.string ⟨#[]⟩,.slice none 0 0,.int .i64 0,.string ⟨#[]⟩,.string ⟨#[]⟩,.slice none 0 0,.slice none 0 0] 98) (fun n=> .pointer (some ⟨n,0,none⟩)) rfl rfl (by rfl) (by first | rfl | go_simp) ?_
         intro gz xz egz hBz _ hgz
         have hkz:=k7_of hgz
         have hExz:Ext w5 xz:=(hExb).trans hBz
         have hSxz:Sg g w5 xz:=(Exc.refl g w5).ext hExz
         refine⟨hSxz,?_⟩
         simp only[Act.put,sA,sZ,sS]
         have hz5:w5.heap.size≤gz:=by rw[egz];exact(hExb:Ext w5 _).size
         have hzl:gz< xz.heap.size:=blk_lt hgz
         have hzn:some gz≠u1.ownBlock:=fun e=>by obtain⟨us',h',_⟩:=hou.rows;have:=(h'.lt gz e.symm).2;omega
         replace hou:=hou.ext hBz
         replace hgb:=(Below.block hBz gb (blk_lt hgb)).trans hgb
         refine rg_one 7 (by kernel_rfl) ?_
         obtain⟨us,hrow,hreps⟩:=hou.rows
         have hlu:gb< xz.heap.size:=blk_lt hgb
         refine tk_src 7 (some 53) rfl rfl (by rfl) (.tmp 49) (.tmp 52) 51 rfl w5.heap.size 9 i0 (.string ⟨#[]⟩) 1 16 Tryz.underlying51 hi hz0 hz1 hz2 rfl (by decide) u1 path.length us rfl hrow (.slice (some ⟨gb,0,none⟩) 1 1) 1 [.string (bs y.name)] rfl (Src.block hgb rfl) (by intro u hu;simp at hu;rcases hu with rfl;rfl) (by unfold maxLen;omega) (by omega) (hExz:Ext w5 _).size ?_
         intro v4 x4 hr4 hg4 ha4
         have hEx4:Ext w5 x4:=sx_grown (hExz) hrow hg4
         have hSx4:Sg g w5 x4:=(Exc.refl g w5).ext hEx4
         refine⟨hSx4,?_⟩
         simp only[Act.put,sA,sZ,sS]
         have hrp:Rep x4 (fun b=>w5.heap.size≤b) v4 (strsD (path++ [y.name])):=by
          have hO:Own x4 (fun _=>False) w5.heap.size 9 1 v4 (path++ [y.name]).length ((path++ [y.name]).flatMap fun x=> [strD x]):=by
           rw[List.length_append,List.flatMap_append]
           exact Own.push (reps_strs hreps) (Reps.cons (Rep.string _ _ _ (by rw[bs_size];exact hnl.1)) (Reps.nil _ _)) hr4 hg4 ha4
          exact hO.rep.ok fun b hb=>hb.elim (fun h=>h.elim) id
         replace hkz:=k7_grown hkz hg4 hzn
         refine rg_one 8 (by kernel_rfl) ?_
         refine tk_call 8 (some 54) 91 #[.pointer (some ⟨g,0,none⟩),.agg #[.int .i64 y.kind,.string (bs y.name),.string (bs y.text),.slice zab y.attrs.length zac,.slice zkb y.kids.length zkc],v4] rfl rfl (by rfl) (fun w'=>by first | rfl | go_simp) (R:=fun v w'=>∃(sq:Step) (nd:Node) (ka xa ya:Option Addr) (kn kc xn xc yn yc:Nat) (ev:Value),v= .tuple #[keyedV sq nd (.slice ka kn kc) (.slice xa xn xc) (.slice ya yn yc),ev]∧ChQ x4 g lv cr (A2+elemsN y) sq nd (.slice ka kn kc) (.slice xa xn xc) (.slice ya yn yc) ev w') ?_ ?_
         ·
          exact(HCH.out x4 v4 hEx4 hrp).mono fun e w' ⟨sq,nd,ka,xa,ya,kn,kc,xn,xc,yn,yc,ev,he,hq⟩=>⟨_,he,sq,nd,ka,xa,ya,kn,kc,xn,xc,yn,yc,ev,rfl,hq⟩
         rintro _ wq ⟨sq,nd,ka,xa,ya,kn,kc,xn,xc,yn,yc,ev,rfl,hQ⟩
         have hSwq:Sg g w5 wq:=YY.Exc.trans' ((Exc.refl g w5).ext (hEx4)) hQ.1
         refine⟨hSwq,?_⟩
         simp only[Act.put,sA,sZ,sS]
         have hEW:Ext w5 x4:=hEx4
         have hXc:Ext wq wq:=Ext.refl _
         have hzW:=hkz.lt
         replace hkz:=hkz.block hQ.1.1 (hQ.1.2 gz (by omega) hkz.lt)
         refine rg_t 9 (some 45) (.tuple #[keyedV sq nd (.slice ka kn kc) (.slice xa xn xc) (.slice ya yn yc),ev]) rfl hSwq (fun w' hs=>by rfl) ?_
         simp only[Act.put,sA,sZ,sS]
         refine rg_t 10 (some 55) (keyedV sq nd (.slice ka kn kc) (.slice xa xn xc) (.slice ya yn yc)) rfl hSwq (fun w' hs=>by first | rfl | go_simp) ?_
         simp only[Act.put,sA,sZ,sS]
         refine rg_t 11 (some 56) (ev) rfl hSwq (fun w' hs=>by first | rfl | go_simp) ?_
         simp only[Act.put,sA,sZ,sS]
         refine rg_one 13 (by kernel_rfl) ?_
         have hTT:=cht_before hQ hEW hz5 hzW lg5 hXc hkz
         refine tk_write 13 none (st7 wq gz sq nd (.slice ka kn kc) (.slice xa xn xc) (.slice ya yn yc)) (by rfl) rfl (by rfl) (exec_store rfl (store_keyed hkz _ _ _ _ _ _ _ _ _ _ _)) ?_
         have hSst:Sg g w5 (st7 wq gz sq nd (.slice ka kn kc) (.slice xa xn xc) (.slice ya yn yc)):=Exc.st7 hSwq hTT.2.1 _ _ _ _ _
         refine⟨hSst,?_⟩
         simp only[Act.put,sA,sZ,sS]
         refine rg_t 14 (some 14) (ev) rfl hSst (fun w' hs=>by rfl) ?_
         simp only[Act.put,sA,sZ,sS]
         refine rg_done (by kernel_rfl) ?_
         exact⟨u1,gb,v4,sq,nd,ka,xa,ya,kn,kc,xn,xc,yn,yc,ev,gz,(by first | rfl | simp only[Act.put,sA,sZ,sS]),hTT⟩
       ·
        refine tk_new 12 (some 13) (.cells #[.string ⟨#[]⟩,.slice none 0 0,.int .i64 0,.string ⟨#[]⟩,.string ⟨#[]⟩,.slice none 0 0,.slice none 0 0] 98) (fun n=> .pointer (some ⟨n,0,none⟩)) rfl rfl (by rfl) (by first | rfl | go_simp) ?_
        intro gz xz egz hBz _ hgz
        have hkz:=k7_of hgz
        have hExz:Ext w5 xz:=(hEx1).trans hBz
        have hSxz:Sg g w5 xz:=(Exc.refl g w5).ext hExz
        refine⟨hSxz,?_⟩
        simp only[Act.put,sA,sZ,sS]
        have hz5:w5.heap.size≤gz:=by rw[egz];exact(hEx1:Ext w5 _).size
        have hzl:gz< xz.heap.size:=blk_lt hgz
        have hzn:some gz≠u1.ownBlock:=fun e=>by obtain⟨us',h',_⟩:=hou.rows;have:=(h'.lt gz e.symm).2;omega
        replace hou:=hou.ext hBz
        refine rg_one 6 (by kernel_rfl) ?_
        refine tk_new 6 (some 52) (.cells #[.string (bs y.name)] 9) (fun n=> .slice (some ⟨n,0,none⟩) 1 1) rfl rfl (by rfl) (by first | rfl | go_simp) ?_
        intro gb xb egb hBb _ hgb
        have hExb:Ext w5 xb:=(hExz).trans hBb
        have hSxb:Sg g w5 xb:=(Exc.refl g w5).ext hExb
        refine⟨hSxb,?_⟩
        simp only[Act.put,sA,sZ,sS]
        replace hou:=hou.ext hBb
        replace hkz:=hkz.ext hBb
        refine rg_one 7 (by kernel_rfl) ?_
        obtain⟨us,hrow,hreps⟩:=hou.rows
        have hlu:gb< xb.heap.size:=blk_lt hgb
        refine tk_src 7 (some 53) rfl rfl (by rfl) (.tmp 49) (.tmp 52) 51 rfl w5.heap.size 9 i0 (.string ⟨#[]⟩) 1 16 Tryz.underlying51 hi hz0 hz1 hz2 rfl (by decide) u1 path.length us rfl hrow (.slice (some ⟨gb,0,none⟩) 1 1) 1 [.string (bs y.name)] rfl (Src.block hgb rfl) (by intro u hu;simp at hu;rcases hu with rfl;rfl) (by unfold maxLen;omega) (by omega) (hExb:Ext w5 _).size ?_
        intro v4 x4 hr4 hg4 ha4
        have hEx4:Ext w5 x4:=sx_grown (hExb) hrow hg4
        have hSx4:Sg g w5 x4:=(Exc.refl g w5).ext hEx4
        refine⟨hSx4,?_⟩
        simp only[Act.put,sA,sZ,sS]
        have hrp:Rep x4 (fun b=>w5.heap.size≤b) v4 (strsD (path++ [y.name])):=by
         have hO:Own x4 (fun _=>False) w5.heap.size 9 1 v4 (path++ [y.name]).length ((path++ [y.name]).flatMap fun x=> [strD x]):=by
          rw[List.length_append,List.flatMap_append]
          exact Own.push (reps_strs hreps) (Reps.cons (Rep.string _ _ _ (by rw[bs_size];exact hnl.1)) (Reps.nil _ _)) hr4 hg4 ha4
         exact hO.rep.ok fun b hb=>hb.elim (fun h=>h.elim) id
        replace hkz:=k7_grown hkz hg4 hzn
        refine rg_one 8 (by kernel_rfl) ?_
        refine tk_call 8 (some 54) 91 #[.pointer (some ⟨g,0,none⟩),.agg #[.int .i64 y.kind,.string (bs y.name),.string (bs y.text),.slice zab y.attrs.length zac,.slice zkb y.kids.length zkc],v4] rfl rfl (by rfl) (fun w'=>by first | rfl | go_simp) (R:=fun v w'=>∃(sq:Step) (nd:Node) (ka xa ya:Option Addr) (kn kc xn xc yn yc:Nat) (ev:Value),v= .tuple #[keyedV sq nd (.slice ka kn kc) (.slice xa xn xc) (.slice ya yn yc),ev]∧ChQ x4 g lv cr (A2+elemsN y) sq nd (.slice ka kn kc) (.slice xa xn xc) (.slice ya yn yc) ev w') ?_ ?_
        ·
         exact(HCH.out x4 v4 hEx4 hrp).mono fun e w' ⟨sq,nd,ka,xa,ya,kn,kc,xn,xc,yn,yc,ev,he,hq⟩=>⟨_,he,sq,nd,ka,xa,ya,kn,kc,xn,xc,yn,yc,ev,rfl,hq⟩
        rintro _ wq ⟨sq,nd,ka,xa,ya,kn,kc,xn,xc,yn,yc,ev,rfl,hQ⟩
        have hSwq:Sg g w5 wq:=YY.Exc.trans' ((Exc.refl g w5).ext (hEx4)) hQ.1
        refine⟨hSwq,?_⟩
        simp only[Act.put,sA,sZ,sS]
        have hEW:Ext w5 x4:=hEx4
        have hXc:Ext wq wq:=Ext.refl _
        have hzW:=hkz.lt
        replace hkz:=hkz.block hQ.1.1 (hQ.1.2 gz (by omega) hkz.lt)
        refine rg_t 9 (some 45) (.tuple #[keyedV sq nd (.slice ka kn kc) (.slice xa xn xc) (.slice ya yn yc),ev]) rfl hSwq (fun w' hs=>by rfl) ?_
        simp only[Act.put,sA,sZ,sS]
        refine rg_t 10 (some 55) (keyedV sq nd (.slice ka kn kc) (.slice xa xn xc) (.slice ya yn yc)) rfl hSwq (fun w' hs=>by first | rfl | go_simp) ?_
        simp only[Act.put,sA,sZ,sS]
        refine rg_t 11 (some 56) (ev) rfl hSwq (fun w' hs=>by first | rfl | go_simp) ?_
        simp only[Act.put,sA,sZ,sS]
        refine rg_one 13 (by kernel_rfl) ?_
        have hTT:=cht_before hQ hEW hz5 hzW lg5 hXc hkz
        refine tk_write 13 none (st7 wq gz sq nd (.slice ka kn kc) (.slice xa xn xc) (.slice ya yn yc)) (by rfl) rfl (by rfl) (exec_store rfl (store_keyed hkz _ _ _ _ _ _ _ _ _ _ _)) ?_
        have hSst:Sg g w5 (st7 wq gz sq nd (.slice ka kn kc) (.slice xa xn xc) (.slice ya yn yc)):=Exc.st7 hSwq hTT.2.1 _ _ _ _ _
        refine⟨hSst,?_⟩
        simp only[Act.put,sA,sZ,sS]
        refine rg_t 14 (some 14) (ev) rfl hSst (fun w' hs=>by rfl) ?_
        simp only[Act.put,sA,sZ,sS]
        refine rg_done (by kernel_rfl) ?_
        exact⟨u1,gb,v4,sq,nd,ka,xa,ya,kn,kc,xn,xc,yn,yc,ev,gz,(by first | rfl | simp only[Act.put,sA,sZ,sS]),hTT⟩
      ·
       refine tk_new 6 (some 52) (.cells #[.string (bs y.name)] 9) (fun n=> .slice (some ⟨n,0,none⟩) 1 1) rfl rfl (by rfl) (by first | rfl | go_simp) ?_
       intro gb xb egb hBb _ hgb
       have hExb:Ext w5 xb:=(((Ext.refl w5).drew)).trans hBb
       have hSxb:Sg g w5 xb:=(Exc.refl g w5).ext hExb
       refine⟨hSxb,?_⟩
       simp only[Act.put,sA,sZ,sS]
       refine rg_two 3 12 (by kernel_rfl) ?_ ?_
       ·
        refine tk_call 3 (some 49) 92 #[.slice pa path.length pc] rfl rfl (by rfl) (fun w'=>by first | rfl | go_simp) (R:=fun v w'=>Own w' (fun b=>s b∧b< xb.heap.size) w5.heap.size 9 1 v path.length (path.flatMap fun x=> [strD x])∧(∀b,v.ownBlock=some b→xb.heap.size≤b)∧Ext xb w') ?_ ?_
        ·
         refine(HCL.out xb hExb).mono ?_
         rintro e w' ⟨⟨u,rfl,hu⟩,hB⟩
         exact⟨_,rfl,Own.low hu (hExb:Ext w5 _).size fun b hb=>hb,fun b hb=>by obtain⟨us',h',_⟩:=hu.rows;exact(h'.lt b hb).1,hB⟩
        rintro u1 x1 ⟨hou,hlo,hBa⟩
        have hEx1:Ext w5 x1:=(hExb).trans hBa
        have hSx1:Sg g w5 x1:=(Exc.refl g w5).ext hEx1
        refine⟨hSx1,?_⟩
        simp only[Act.put,sA,sZ,sS]
        replace hgb:=(Below.block hBa gb (blk_lt hgb)).trans hgb
        refine rg_two 7 12 (by kernel_rfl) ?_ ?_
        ·
         obtain⟨us,hrow,hreps⟩:=hou.rows
         have hlu:gb< x1.heap.size:=blk_lt hgb
         refine tk_src 7 (some 53) rfl rfl (by rfl) (.tmp 49) (.tmp 52) 51 rfl w5.heap.size 9 i0 (.string ⟨#[]⟩) 1 16 Tryz.underlying51 hi hz0 hz1 hz2 rfl (by decide) u1 path.length us rfl hrow (.slice (some ⟨gb,0,none⟩) 1 1) 1 [.string (bs y.name)] rfl (Src.block hgb rfl) (by intro u hu;simp at hu;rcases hu with rfl;rfl) (by unfold maxLen;omega) (by omega) (hEx1:Ext w5 _).size ?_
         intro v4 x4 hr4 hg4 ha4
         have hEx4:Ext w5 x4:=sx_grown (hEx1) hrow hg4
         have hSx4:Sg g w5 x4:=(Exc.refl g w5).ext hEx4
         refine⟨hSx4,?_⟩
         simp only[Act.put,sA,sZ,sS]
         have hrp:Rep x4 (fun b=>w5.heap.size≤b) v4 (strsD (path++ [y.name])):=by
          have hO:Own x4 (fun _=>False) w5.heap.size 9 1 v4 (path++ [y.name]).length ((path++ [y.name]).flatMap fun x=> [strD x]):=by
           rw[List.length_append,List.flatMap_append]
           exact Own.push (reps_strs hreps) (Reps.cons (Rep.string _ _ _ (by rw[bs_size];exact hnl.1)) (Reps.nil _ _)) hr4 hg4 ha4
          exact hO.rep.ok fun b hb=>hb.elim (fun h=>h.elim) id
         refine rg_two 8 12 (by kernel_rfl) ?_ ?_
         ·
          refine tk_call 8 (some 54) 91 #[.pointer (some ⟨g,0,none⟩),.agg #[.int .i64 y.kind,.string (bs y.name),.string (bs y.text),.slice zab y.attrs.length zac,.slice zkb y.kids.length zkc],v4] rfl rfl (by rfl) (fun w'=>by first | rfl | go_simp) (R:=fun v w'=>∃(sq:Step) (nd:Node) (ka xa ya:Option Addr) (kn kc xn xc yn yc:Nat) (ev:Value),v= .tuple #[keyedV sq nd (.slice ka kn kc) (.slice xa xn xc) (.slice ya yn yc),ev]∧ChQ x4 g lv cr (A2+elemsN y) sq nd (.slice ka kn kc) (.slice xa xn xc) (.slice ya yn yc) ev w') ?_ ?_
          ·
           exact(HCH.out x4 v4 hEx4 hrp).mono fun e w' ⟨sq,nd,ka,xa,ya,kn,kc,xn,xc,yn,yc,ev,he,hq⟩=>⟨_,he,sq,nd,ka,xa,ya,kn,kc,xn,xc,yn,yc,ev,rfl,hq⟩
          rintro _ wq ⟨sq,nd,ka,xa,ya,kn,kc,xn,xc,yn,yc,ev,rfl,hQ⟩
          have hSwq:Sg g w5 wq:=YY.Exc.trans' ((Exc.refl g w5).ext (hEx4)) hQ.1
          refine⟨hSwq,?_⟩
          simp only[Act.put,sA,sZ,sS]
          have hEW:Ext w5 x4:=hEx4
          have hXc:Ext wq wq:=Ext.refl _
          refine rg_t 9 (some 45) (.tuple #[keyedV sq nd (.slice ka kn kc) (.slice xa xn xc) (.slice ya yn yc),ev]) rfl hSwq (fun w' hs=>by rfl) ?_
          simp only[Act.put,sA,sZ,sS]
          refine rg_t 10 (some 55) (keyedV sq nd (.slice ka kn kc) (.slice xa xn xc) (.slice ya yn yc)) rfl hSwq (fun w' hs=>by first | rfl | go_simp) ?_
          simp only[Act.put,sA,sZ,sS]
          refine rg_t 11 (some 56) (ev) rfl hSwq (fun w' hs=>by first | rfl | go_simp) ?_
          simp only[Act.put,sA,sZ,sS]
          refine rg_one 12 (by kernel_rfl) ?_
          refine tk_new 12 (some 13) (.cells #[.string ⟨#[]⟩,.slice none 0 0,.int .i64 0,.string ⟨#[]⟩,.string ⟨#[]⟩,.slice none 0 0,.slice none 0 0] 98) (fun n=> .pointer (some ⟨n,0,none⟩)) rfl rfl (by rfl) (by first | rfl | go_simp) ?_
          intro gz xz egz hBz _ hgz
          have hkz:=k7_of hgz
          have hSxz:Sg g w5 xz:=Exc.ext hSwq hBz
          refine⟨hSxz,?_⟩
          simp only[Act.put,sA,sZ,sS]
          have hzq:wq.heap.size≤gz:=by rw[egz];exact hXc.size
          replace hXc:=hXc.trans hBz
          refine rg_one 13 (by kernel_rfl) ?_
          have hTT:=cht_after hQ hEW hzq lg5 hXc hkz
          refine tk_write 13 none (st7 xz gz sq nd (.slice ka kn kc) (.slice xa xn xc) (.slice ya yn yc)) (by rfl) rfl (by rfl) (exec_store rfl (store_keyed hkz _ _ _ _ _ _ _ _ _ _ _)) ?_
          have hSst:Sg g w5 (st7 xz gz sq nd (.slice ka kn kc) (.slice xa xn xc) (.slice ya yn yc)):=Exc.st7 hSxz hTT.2.1 _ _ _ _ _
          refine⟨hSst,?_⟩
          simp only[Act.put,sA,sZ,sS]
          refine rg_t 14 (some 14) (ev) rfl hSst (fun w' hs=>by rfl) ?_
          simp only[Act.put,sA,sZ,sS]
          refine rg_done (by kernel_rfl) ?_
          exact⟨u1,gb,v4,sq,nd,ka,xa,ya,kn,kc,xn,xc,yn,yc,ev,gz,(by first | rfl | simp only[Act.put,sA,sZ,sS]),hTT⟩
         ·
          refine tk_new 12 (some 13) (.cells #[.string ⟨#[]⟩,.slice none 0 0,.int .i64 0,.string ⟨#[]⟩,.string ⟨#[]⟩,.slice none 0 0,.slice none 0 0] 98) (fun n=> .pointer (some ⟨n,0,none⟩)) rfl rfl (by rfl) (by first | rfl | go_simp) ?_
          intro gz xz egz hBz _ hgz
          have hkz:=k7_of hgz
          have hExz:Ext w5 xz:=(hEx4).trans hBz
          have hSxz:Sg g w5 xz:=(Exc.refl g w5).ext hExz
          refine⟨hSxz,?_⟩
          simp only[Act.put,sA,sZ,sS]
          have hz5:w5.heap.size≤gz:=by rw[egz];exact(hEx4:Ext w5 _).size
          have hzl:gz< xz.heap.size:=blk_lt hgz
          replace hrp:=hrp.ext hBz
          refine rg_one 8 (by kernel_rfl) ?_
          refine tk_call 8 (some 54) 91 #[.pointer (some ⟨g,0,none⟩),.agg #[.int .i64 y.kind,.string (bs y.name),.string (bs y.text),.slice zab y.attrs.length zac,.slice zkb y.kids.length zkc],v4] rfl rfl (by rfl) (fun w'=>by first | rfl | go_simp) (R:=fun v w'=>∃(sq:Step) (nd:Node) (ka xa ya:Option Addr) (kn kc xn xc yn yc:Nat) (ev:Value),v= .tuple #[keyedV sq nd (.slice ka kn kc) (.slice xa xn xc) (.slice ya yn yc),ev]∧ChQ xz g lv cr (A2+elemsN y) sq nd (.slice ka kn kc) (.slice xa xn xc) (.slice ya yn yc) ev w') ?_ ?_
          ·
           exact(HCH.out xz v4 hExz hrp).mono fun e w' ⟨sq,nd,ka,xa,ya,kn,kc,xn,xc,yn,yc,ev,he,hq⟩=>⟨_,he,sq,nd,ka,xa,ya,kn,kc,xn,xc,yn,yc,ev,rfl,hq⟩
          rintro _ wq ⟨sq,nd,ka,xa,ya,kn,kc,xn,xc,yn,yc,ev,rfl,hQ⟩
          have hSwq:Sg g w5 wq:=YY.Exc.trans' ((Exc.refl g w5).ext (hExz)) hQ.1
          refine⟨hSwq,?_⟩
          simp only[Act.put,sA,sZ,sS]
          have hEW:Ext w5 xz:=hExz
          have hXc:Ext wq wq:=Ext.refl _
          have hzW:=hkz.lt
          replace hkz:=hkz.block hQ.1.1 (hQ.1.2 gz (by omega) hkz.lt)
          refine rg_t 9 (some 45) (.tuple #[keyedV sq nd (.slice ka kn kc) (.slice xa xn xc) (.slice ya yn yc),ev]) rfl hSwq (fun w' hs=>by rfl) ?_
          simp only[Act.put,sA,sZ,sS]
          refine rg_t 10 (some 55) (keyedV sq nd (.slice ka kn kc) (.slice xa xn xc) (.slice ya yn yc)) rfl hSwq (fun w' hs=>by first | rfl | go_simp) ?_
          simp only[Act.put,sA,sZ,sS]
          refine rg_t 11 (some 56) (ev) rfl hSwq (fun w' hs=>by first | rfl | go_simp) ?_
          simp only[Act.put,sA,sZ,sS]
          refine rg_one 13 (by kernel_rfl) ?_
          have hTT:=cht_before hQ hEW hz5 hzW lg5 hXc hkz
          refine tk_write 13 none (st7 wq gz sq nd (.slice ka kn kc) (.slice xa xn xc) (.slice ya yn yc)) (by rfl) rfl (by rfl) (exec_store rfl (store_keyed hkz _ _ _ _ _ _ _ _ _ _ _)) ?_
          have hSst:Sg g w5 (st7 wq gz sq nd (.slice ka kn kc) (.slice xa xn xc) (.slice ya yn yc)):=Exc.st7 hSwq hTT.2.1 _ _ _ _ _
          refine⟨hSst,?_⟩
          simp only[Act.put,sA,sZ,sS]
          refine rg_t 14 (some 14) (ev) rfl hSst (fun w' hs=>by rfl) ?_
          simp only[Act.put,sA,sZ,sS]
          refine rg_done (by kernel_rfl) ?_
          exact⟨u1,gb,v4,sq,nd,ka,xa,ya,kn,kc,xn,xc,yn,yc,ev,gz,(by first | rfl | simp only[Act.put,sA,sZ,sS]),hTT⟩
        ·
         refine tk_new 12 (some 13) (.cells #[.string ⟨#[]⟩,.slice none 0 0,.int .i64 0,.string ⟨#[]⟩,.string ⟨#[]⟩,.slice none 0 0,.slice none 0 0] 98) (fun n=> .pointer (some ⟨n,0,none⟩)) rfl rfl (by rfl) (by first | rfl | go_simp) ?_
         intro gz xz egz hBz _ hgz
         have hkz:=k7_of hgz
         have hExz:Ext w5 xz:=(hEx1).trans hBz
         have hSxz:Sg g w5 xz:=(Exc.refl g w5).ext hExz
         refine⟨hSxz,?_⟩
         simp only[Act.put,sA,sZ,sS]
         have hz5:w5.heap.size≤gz:=by rw[egz];exact(hEx1:Ext w5 _).size
         have hzl:gz< xz.heap.size:=blk_lt hgz
         have hzn:some gz≠u1.ownBlock:=fun e=>by obtain⟨us',h',_⟩:=hou.rows;have:=(h'.lt gz e.symm).2;omega
         replace hou:=hou.ext hBz
         replace hgb:=(Below.block hBz gb (blk_lt hgb)).trans hgb
         refine rg_one 7 (by kernel_rfl) ?_
         obtain⟨us,hrow,hreps⟩:=hou.rows
         have hlu:gb< xz.heap.size:=blk_lt hgb
         refine tk_src 7 (some 53) rfl rfl (by rfl) (.tmp 49) (.tmp 52) 51 rfl w5.heap.size 9 i0 (.string ⟨#[]⟩) 1 16 Tryz.underlying51 hi hz0 hz1 hz2 rfl (by decide) u1 path.length us rfl hrow (.slice (some ⟨gb,0,none⟩) 1 1) 1 [.string (bs y.name)] rfl (Src.block hgb rfl) (by intro u hu;simp at hu;rcases hu with rfl;rfl) (by unfold maxLen;omega) (by omega) (hExz:Ext w5 _).size ?_
         intro v4 x4 hr4 hg4 ha4
         have hEx4:Ext w5 x4:=sx_grown (hExz) hrow hg4
         have hSx4:Sg g w5 x4:=(Exc.refl g w5).ext hEx4
         refine⟨hSx4,?_⟩
         simp only[Act.put,sA,sZ,sS]
         have hrp:Rep x4 (fun b=>w5.heap.size≤b) v4 (strsD (path++ [y.name])):=by
          have hO:Own x4 (fun _=>False) w5.heap.size 9 1 v4 (path++ [y.name]).length ((path++ [y.name]).flatMap fun x=> [strD x]):=by
           rw[List.length_append,List.flatMap_append]
           exact Own.push (reps_strs hreps) (Reps.cons (Rep.string _ _ _ (by rw[bs_size];exact hnl.1)) (Reps.nil _ _)) hr4 hg4 ha4
          exact hO.rep.ok fun b hb=>hb.elim (fun h=>h.elim) id
         replace hkz:=k7_grown hkz hg4 hzn
         refine rg_one 8 (by kernel_rfl) ?_
         refine tk_call 8 (some 54) 91 #[.pointer (some ⟨g,0,none⟩),.agg #[.int .i64 y.kind,.string (bs y.name),.string (bs y.text),.slice zab y.attrs.length zac,.slice zkb y.kids.length zkc],v4] rfl rfl (by rfl) (fun w'=>by first | rfl | go_simp) (R:=fun v w'=>∃(sq:Step) (nd:Node) (ka xa ya:Option Addr) (kn kc xn xc yn yc:Nat) (ev:Value),v= .tuple #[keyedV sq nd (.slice ka kn kc) (.slice xa xn xc) (.slice ya yn yc),ev]∧ChQ x4 g lv cr (A2+elemsN y) sq nd (.slice ka kn kc) (.slice xa xn xc) (.slice ya yn yc) ev w') ?_ ?_
         ·
          exact(HCH.out x4 v4 hEx4 hrp).mono fun e w' ⟨sq,nd,ka,xa,ya,kn,kc,xn,xc,yn,yc,ev,he,hq⟩=>⟨_,he,sq,nd,ka,xa,ya,kn,kc,xn,xc,yn,yc,ev,rfl,hq⟩
         rintro _ wq ⟨sq,nd,ka,xa,ya,kn,kc,xn,xc,yn,yc,ev,rfl,hQ⟩
         have hSwq:Sg g w5 wq:=YY.Exc.trans' ((Exc.refl g w5).ext (hEx4)) hQ.1
         refine⟨hSwq,?_⟩
         simp only[Act.put,sA,sZ,sS]
         have hEW:Ext w5 x4:=hEx4
         have hXc:Ext wq wq:=Ext.refl _
         have hzW:=hkz.lt
         replace hkz:=hkz.block hQ.1.1 (hQ.1.2 gz (by omega) hkz.lt)
         refine rg_t 9 (some 45) (.tuple #[keyedV sq nd (.slice ka kn kc) (.slice xa xn xc) (.slice ya yn yc),ev]) rfl hSwq (fun w' hs=>by rfl) ?_
         simp only[Act.put,sA,sZ,sS]
         refine rg_t 10 (some 55) (keyedV sq nd (.slice ka kn kc) (.slice xa xn xc) (.slice ya yn yc)) rfl hSwq (fun w' hs=>by first | rfl | go_simp) ?_
         simp only[Act.put,sA,sZ,sS]
         refine rg_t 11 (some 56) (ev) rfl hSwq (fun w' hs=>by first | rfl | go_simp) ?_
         simp only[Act.put,sA,sZ,sS]
         refine rg_one 13 (by kernel_rfl) ?_
         have hTT:=cht_before hQ hEW hz5 hzW lg5 hXc hkz
         refine tk_write 13 none (st7 wq gz sq nd (.slice ka kn kc) (.slice xa xn xc) (.slice ya yn yc)) (by rfl) rfl (by rfl) (exec_store rfl (store_keyed hkz _ _ _ _ _ _ _ _ _ _ _)) ?_
         have hSst:Sg g w5 (st7 wq gz sq nd (.slice ka kn kc) (.slice xa xn xc) (.slice ya yn yc)):=Exc.st7 hSwq hTT.2.1 _ _ _ _ _
         refine⟨hSst,?_⟩
         simp only[Act.put,sA,sZ,sS]
         refine rg_t 14 (some 14) (ev) rfl hSst (fun w' hs=>by rfl) ?_
         simp only[Act.put,sA,sZ,sS]
         refine rg_done (by kernel_rfl) ?_
         exact⟨u1,gb,v4,sq,nd,ka,xa,ya,kn,kc,xn,xc,yn,yc,ev,gz,(by first | rfl | simp only[Act.put,sA,sZ,sS]),hTT⟩
       ·
        refine tk_new 12 (some 13) (.cells #[.string ⟨#[]⟩,.slice none 0 0,.int .i64 0,.string ⟨#[]⟩,.string ⟨#[]⟩,.slice none 0 0,.slice none 0 0] 98) (fun n=> .pointer (some ⟨n,0,none⟩)) rfl rfl (by rfl) (by first | rfl | go_simp) ?_
        intro gz xz egz hBz _ hgz
        have hkz:=k7_of hgz
        have hExz:Ext w5 xz:=(hExb).trans hBz
        have hSxz:Sg g w5 xz:=(Exc.refl g w5).ext hExz
        refine⟨hSxz,?_⟩
        simp only[Act.put,sA,sZ,sS]
        have hz5:w5.heap.size≤gz:=by rw[egz];exact(hExb:Ext w5 _).size
        have hzl:gz< xz.heap.size:=blk_lt hgz
        replace hgb:=(Below.block hBz gb (blk_lt hgb)).trans hgb
        refine rg_one 3 (by kernel_rfl) ?_
        refine tk_call 3 (some 49) 92 #[.slice pa path.length pc] rfl rfl (by rfl) (fun w'=>by first | rfl | go_simp) (R:=fun v w'=>Own w' (fun b=>s b∧b< xz.heap.size) w5.heap.size 9 1 v path.length (path.flatMap fun x=> [strD x])∧(∀b,v.ownBlock=some b→xz.heap.size≤b)∧Ext xz w') ?_ ?_
        ·
         refine(HCL.out xz hExz).mono ?_
         rintro e w' ⟨⟨u,rfl,hu⟩,hB⟩
         exact⟨_,rfl,Own.low hu (hExz:Ext w5 _).size fun b hb=>hb,fun b hb=>by obtain⟨us',h',_⟩:=hu.rows;exact(h'.lt b hb).1,hB⟩
        rintro u1 x1 ⟨hou,hlo,hBa⟩
        have hEx1:Ext w5 x1:=(hExz).trans hBa
        have hSx1:Sg g w5 x1:=(Exc.refl g w5).ext hEx1
        refine⟨hSx1,?_⟩
        simp only[Act.put,sA,sZ,sS]
        have hzn:some gz≠u1.ownBlock:=fun e=>by have:=hlo gz e.symm;have:=hkz.lt;omega
        replace hgb:=(Below.block hBa gb (blk_lt hgb)).trans hgb
        replace hkz:=hkz.ext hBa
        refine rg_one 7 (by kernel_rfl) ?_
        obtain⟨us,hrow,hreps⟩:=hou.rows
        have hlu:gb< x1.heap.size:=blk_lt hgb
        refine tk_src 7 (some 53) rfl rfl (by rfl) (.tmp 49) (.tmp 52) 51 rfl w5.heap.size 9 i0 (.string ⟨#[]⟩) 1 16 Tryz.underlying51 hi hz0 hz1 hz2 rfl (by decide) u1 path.length us rfl hrow (.slice (some ⟨gb,0,none⟩) 1 1) 1 [.string (bs y.name)] rfl (Src.block hgb rfl) (by intro u hu;simp at hu;rcases hu with rfl;rfl) (by unfold maxLen;omega) (by omega) (hEx1:Ext w5 _).size ?_
        intro v4 x4 hr4 hg4 ha4
        have hEx4:Ext w5 x4:=sx_grown (hEx1) hrow hg4
        have hSx4:Sg g w5 x4:=(Exc.refl g w5).ext hEx4
        refine⟨hSx4,?_⟩
        simp only[Act.put,sA,sZ,sS]
        have hrp:Rep x4 (fun b=>w5.heap.size≤b) v4 (strsD (path++ [y.name])):=by
         have hO:Own x4 (fun _=>False) w5.heap.size 9 1 v4 (path++ [y.name]).length ((path++ [y.name]).flatMap fun x=> [strD x]):=by
          rw[List.length_append,List.flatMap_append]
          exact Own.push (reps_strs hreps) (Reps.cons (Rep.string _ _ _ (by rw[bs_size];exact hnl.1)) (Reps.nil _ _)) hr4 hg4 ha4
         exact hO.rep.ok fun b hb=>hb.elim (fun h=>h.elim) id
        replace hkz:=k7_grown hkz hg4 hzn
        refine rg_one 8 (by kernel_rfl) ?_
        refine tk_call 8 (some 54) 91 #[.pointer (some ⟨g,0,none⟩),.agg #[.int .i64 y.kind,.string (bs y.name),.string (bs y.text),.slice zab y.attrs.length zac,.slice zkb y.kids.length zkc],v4] rfl rfl (by rfl) (fun w'=>by first | rfl | go_simp) (R:=fun v w'=>∃(sq:Step) (nd:Node) (ka xa ya:Option Addr) (kn kc xn xc yn yc:Nat) (ev:Value),v= .tuple #[keyedV sq nd (.slice ka kn kc) (.slice xa xn xc) (.slice ya yn yc),ev]∧ChQ x4 g lv cr (A2+elemsN y) sq nd (.slice ka kn kc) (.slice xa xn xc) (.slice ya yn yc) ev w') ?_ ?_
        ·
         exact(HCH.out x4 v4 hEx4 hrp).mono fun e w' ⟨sq,nd,ka,xa,ya,kn,kc,xn,xc,yn,yc,ev,he,hq⟩=>⟨_,he,sq,nd,ka,xa,ya,kn,kc,xn,xc,yn,yc,ev,rfl,hq⟩
        rintro _ wq ⟨sq,nd,ka,xa,ya,kn,kc,xn,xc,yn,yc,ev,rfl,hQ⟩
        have hSwq:Sg g w5 wq:=YY.Exc.trans' ((Exc.refl g w5).ext (hEx4)) hQ.1
        refine⟨hSwq,?_⟩
        simp only[Act.put,sA,sZ,sS]
        have hEW:Ext w5 x4:=hEx4
        have hXc:Ext wq wq:=Ext.refl _
        have hzW:=hkz.lt
        replace hkz:=hkz.block hQ.1.1 (hQ.1.2 gz (by omega) hkz.lt)
        refine rg_t 9 (some 45) (.tuple #[keyedV sq nd (.slice ka kn kc) (.slice xa xn xc) (.slice ya yn yc),ev]) rfl hSwq (fun w' hs=>by rfl) ?_
        simp only[Act.put,sA,sZ,sS]
        refine rg_t 10 (some 55) (keyedV sq nd (.slice ka kn kc) (.slice xa xn xc) (.slice ya yn yc)) rfl hSwq (fun w' hs=>by first | rfl | go_simp) ?_
        simp only[Act.put,sA,sZ,sS]
        refine rg_t 11 (some 56) (ev) rfl hSwq (fun w' hs=>by first | rfl | go_simp) ?_
        simp only[Act.put,sA,sZ,sS]
        refine rg_one 13 (by kernel_rfl) ?_
        have hTT:=cht_before hQ hEW hz5 hzW lg5 hXc hkz
        refine tk_write 13 none (st7 wq gz sq nd (.slice ka kn kc) (.slice xa xn xc) (.slice ya yn yc)) (by rfl) rfl (by rfl) (exec_store rfl (store_keyed hkz _ _ _ _ _ _ _ _ _ _ _)) ?_
        have hSst:Sg g w5 (st7 wq gz sq nd (.slice ka kn kc) (.slice xa xn xc) (.slice ya yn yc)):=Exc.st7 hSwq hTT.2.1 _ _ _ _ _
        refine⟨hSst,?_⟩
        simp only[Act.put,sA,sZ,sS]
        refine rg_t 14 (some 14) (ev) rfl hSst (fun w' hs=>by rfl) ?_
        simp only[Act.put,sA,sZ,sS]
        refine rg_done (by kernel_rfl) ?_
        exact⟨u1,gb,v4,sq,nd,ka,xa,ya,kn,kc,xn,xc,yn,yc,ev,gz,(by first | rfl | simp only[Act.put,sA,sZ,sS]),hTT⟩
      ·
       refine tk_new 12 (some 13) (.cells #[.string ⟨#[]⟩,.slice none 0 0,.int .i64 0,.string ⟨#[]⟩,.string ⟨#[]⟩,.slice none 0 0,.slice none 0 0] 98) (fun n=> .pointer (some ⟨n,0,none⟩)) rfl rfl (by rfl) (by first | rfl | go_simp) ?_
       intro gz xz egz hBz _ hgz
       have hkz:=k7_of hgz
       have hExz:Ext w5 xz:=(((Ext.refl w5).drew)).trans hBz
       have hSxz:Sg g w5 xz:=(Exc.refl g w5).ext hExz
       refine⟨hSxz,?_⟩
       simp only[Act.put,sA,sZ,sS]
       have hz5:w5.heap.size≤gz:=by rw[egz];exact(((Ext.refl w5).drew):Ext w5 _).size
       have hzl:gz< xz.heap.size:=blk_lt hgz
       refine rg_two 3 6 (by kernel_rfl) ?_ ?_
       ·
        refine tk_call 3 (some 49) 92 #[.slice pa path.length pc] rfl rfl (by rfl) (fun w'=>by first | rfl | go_simp) (R:=fun v w'=>Own w' (fun b=>s b∧b< xz.heap.size) w5.heap.size 9 1 v path.length (path.flatMap fun x=> [strD x])∧(∀b,v.ownBlock=some b→xz.heap.size≤b)∧Ext xz w') ?_ ?_
        ·
         refine(HCL.out xz hExz).mono ?_
         rintro e w' ⟨⟨u,rfl,hu⟩,hB⟩
         exact⟨_,rfl,Own.low hu (hExz:Ext w5 _).size fun b hb=>hb,fun b hb=>by obtain⟨us',h',_⟩:=hu.rows;exact(h'.lt b hb).1,hB⟩
        rintro u1 x1 ⟨hou,hlo,hBa⟩
        have hEx1:Ext w5 x1:=(hExz).trans hBa
        have hSx1:Sg g w5 x1:=(Exc.refl g w5).ext hEx1
        refine⟨hSx1,?_⟩
        simp only[Act.put,sA,sZ,sS]
        have hzn:some gz≠u1.ownBlock:=fun e=>by have:=hlo gz e.symm;have:=hkz.lt;omega
        replace hkz:=hkz.ext hBa
        refine rg_one 6 (by kernel_rfl) ?_
        refine tk_new 6 (some 52) (.cells #[.string (bs y.name)] 9) (fun n=> .slice (some ⟨n,0,none⟩) 1 1) rfl rfl (by rfl) (by first | rfl | go_simp) ?_
        intro gb xb egb hBb _ hgb
        have hExb:Ext w5 xb:=(hEx1).trans hBb
        have hSxb:Sg g w5 xb:=(Exc.refl g w5).ext hExb
        refine⟨hSxb,?_⟩
        simp only[Act.put,sA,sZ,sS]
        replace hou:=hou.ext hBb
        replace hkz:=hkz.ext hBb
        refine rg_one 7 (by kernel_rfl) ?_
        obtain⟨us,hrow,hreps⟩:=hou.rows
        have hlu:gb< xb.heap.size:=blk_lt hgb
        refine tk_src 7 (some 53) rfl rfl (by rfl) (.tmp 49) (.tmp 52) 51 rfl w5.heap.size 9 i0 (.string ⟨#[]⟩) 1 16 Tryz.underlying51 hi hz0 hz1 hz2 rfl (by decide) u1 path.length us rfl hrow (.slice (some ⟨gb,0,none⟩) 1 1) 1 [.string (bs y.name)] rfl (Src.block hgb rfl) (by intro u hu;simp at hu;rcases hu with rfl;rfl) (by unfold maxLen;omega) (by omega) (hExb:Ext w5 _).size ?_
        intro v4 x4 hr4 hg4 ha4
        have hEx4:Ext w5 x4:=sx_grown (hExb) hrow hg4
        have hSx4:Sg g w5 x4:=(Exc.refl g w5).ext hEx4
        refine⟨hSx4,?_⟩
        simp only[Act.put,sA,sZ,sS]
        have hrp:Rep x4 (fun b=>w5.heap.size≤b) v4 (strsD (path++ [y.name])):=by
         have hO:Own x4 (fun _=>False) w5.heap.size 9 1 v4 (path++ [y.name]).length ((path++ [y.name]).flatMap fun x=> [strD x]):=by
          rw[List.length_append,List.flatMap_append]
          exact Own.push (reps_strs hreps) (Reps.cons (Rep.string _ _ _ (by rw[bs_size];exact hnl.1)) (Reps.nil _ _)) hr4 hg4 ha4
         exact hO.rep.ok fun b hb=>hb.elim (fun h=>h.elim) id
        replace hkz:=k7_grown hkz hg4 hzn
        refine rg_one 8 (by kernel_rfl) ?_
        refine tk_call 8 (some 54) 91 #[.pointer (some ⟨g,0,none⟩),.agg #[.int .i64 y.kind,.string (bs y.name),.string (bs y.text),.slice zab y.attrs.length zac,.slice zkb y.kids.length zkc],v4] rfl rfl (by rfl) (fun w'=>by first | rfl | go_simp) (R:=fun v w'=>∃(sq:Step) (nd:Node) (ka xa ya:Option Addr) (kn kc xn xc yn yc:Nat) (ev:Value),v= .tuple #[keyedV sq nd (.slice ka kn kc) (.slice xa xn xc) (.slice ya yn yc),ev]∧ChQ x4 g lv cr (A2+elemsN y) sq nd (.slice ka kn kc) (.slice xa xn xc) (.slice ya yn yc) ev w') ?_ ?_
        ·
         exact(HCH.out x4 v4 hEx4 hrp).mono fun e w' ⟨sq,nd,ka,xa,ya,kn,kc,xn,xc,yn,yc,ev,he,hq⟩=>⟨_,he,sq,nd,ka,xa,ya,kn,kc,xn,xc,yn,yc,ev,rfl,hq⟩
        rintro _ wq ⟨sq,nd,ka,xa,ya,kn,kc,xn,xc,yn,yc,ev,rfl,hQ⟩
        have hSwq:Sg g w5 wq:=YY.Exc.trans' ((Exc.refl g w5).ext (hEx4)) hQ.1
        refine⟨hSwq,?_⟩
        simp only[Act.put,sA,sZ,sS]
        have hEW:Ext w5 x4:=hEx4
        have hXc:Ext wq wq:=Ext.refl _
        have hzW:=hkz.lt
        replace hkz:=hkz.block hQ.1.1 (hQ.1.2 gz (by omega) hkz.lt)
        refine rg_t 9 (some 45) (.tuple #[keyedV sq nd (.slice ka kn kc) (.slice xa xn xc) (.slice ya yn yc),ev]) rfl hSwq (fun w' hs=>by rfl) ?_
        simp only[Act.put,sA,sZ,sS]
        refine rg_t 10 (some 55) (keyedV sq nd (.slice ka kn kc) (.slice xa xn xc) (.slice ya yn yc)) rfl hSwq (fun w' hs=>by first | rfl | go_simp) ?_
        simp only[Act.put,sA,sZ,sS]
        refine rg_t 11 (some 56) (ev) rfl hSwq (fun w' hs=>by first | rfl | go_simp) ?_
        simp only[Act.put,sA,sZ,sS]
        refine rg_one 13 (by kernel_rfl) ?_
        have hTT:=cht_before hQ hEW hz5 hzW lg5 hXc hkz
        refine tk_write 13 none (st7 wq gz sq nd (.slice ka kn kc) (.slice xa xn xc) (.slice ya yn yc)) (by rfl) rfl (by rfl) (exec_store rfl (store_keyed hkz _ _ _ _ _ _ _ _ _ _ _)) ?_
        have hSst:Sg g w5 (st7 wq gz sq nd (.slice ka kn kc) (.slice xa xn xc) (.slice ya yn yc)):=Exc.st7 hSwq hTT.2.1 _ _ _ _ _
        refine⟨hSst,?_⟩
        simp only[Act.put,sA,sZ,sS]
        refine rg_t 14 (some 14) (ev) rfl hSst (fun w' hs=>by rfl) ?_
        simp only[Act.put,sA,sZ,sS]
        refine rg_done (by kernel_rfl) ?_
        exact⟨u1,gb,v4,sq,nd,ka,xa,ya,kn,kc,xn,xc,yn,yc,ev,gz,(by first | rfl | simp only[Act.put,sA,sZ,sS]),hTT⟩
       ·
        refine tk_new 6 (some 52) (.cells #[.string (bs y.name)] 9) (fun n=> .slice (some ⟨n,0,none⟩) 1 1) rfl rfl (by rfl) (by first | rfl | go_simp) ?_
        intro gb xb egb hBb _ hgb
        have hExb:Ext w5 xb:=(hExz).trans hBb
        have hSxb:Sg g w5 xb:=(Exc.refl g w5).ext hExb
        refine⟨hSxb,?_⟩
        simp only[Act.put,sA,sZ,sS]
        replace hkz:=hkz.ext hBb
        refine rg_one 3 (by kernel_rfl) ?_
        refine tk_call 3 (some 49) 92 #[.slice pa path.length pc] rfl rfl (by rfl) (fun w'=>by first | rfl | go_simp) (R:=fun v w'=>Own w' (fun b=>s b∧b< xb.heap.size) w5.heap.size 9 1 v path.length (path.flatMap fun x=> [strD x])∧(∀b,v.ownBlock=some b→xb.heap.size≤b)∧Ext xb w') ?_ ?_
        ·
         refine(HCL.out xb hExb).mono ?_
         rintro e w' ⟨⟨u,rfl,hu⟩,hB⟩
         exact⟨_,rfl,Own.low hu (hExb:Ext w5 _).size fun b hb=>hb,fun b hb=>by obtain⟨us',h',_⟩:=hu.rows;exact(h'.lt b hb).1,hB⟩
        rintro u1 x1 ⟨hou,hlo,hBa⟩
        have hEx1:Ext w5 x1:=(hExb).trans hBa
        have hSx1:Sg g w5 x1:=(Exc.refl g w5).ext hEx1
        refine⟨hSx1,?_⟩
        simp only[Act.put,sA,sZ,sS]
        have hzn:some gz≠u1.ownBlock:=fun e=>by have:=hlo gz e.symm;have:=hkz.lt;omega
        replace hgb:=(Below.block hBa gb (blk_lt hgb)).trans hgb
        replace hkz:=hkz.ext hBa
        refine rg_one 7 (by kernel_rfl) ?_
        obtain⟨us,hrow,hreps⟩:=hou.rows
        have hlu:gb< x1.heap.size:=blk_lt hgb
        refine tk_src 7 (some 53) rfl rfl (by rfl) (.tmp 49) (.tmp 52) 51 rfl w5.heap.size 9 i0 (.string ⟨#[]⟩) 1 16 Tryz.underlying51 hi hz0 hz1 hz2 rfl (by decide) u1 path.length us rfl hrow (.slice (some ⟨gb,0,none⟩) 1 1) 1 [.string (bs y.name)] rfl (Src.block hgb rfl) (by intro u hu;simp at hu;rcases hu with rfl;rfl) (by unfold maxLen;omega) (by omega) (hEx1:Ext w5 _).size ?_
        intro v4 x4 hr4 hg4 ha4
        have hEx4:Ext w5 x4:=sx_grown (hEx1) hrow hg4
        have hSx4:Sg g w5 x4:=(Exc.refl g w5).ext hEx4
        refine⟨hSx4,?_⟩
        simp only[Act.put,sA,sZ,sS]
        have hrp:Rep x4 (fun b=>w5.heap.size≤b) v4 (strsD (path++ [y.name])):=by
         have hO:Own x4 (fun _=>False) w5.heap.size 9 1 v4 (path++ [y.name]).length ((path++ [y.name]).flatMap fun x=> [strD x]):=by
          rw[List.length_append,List.flatMap_append]
          exact Own.push (reps_strs hreps) (Reps.cons (Rep.string _ _ _ (by rw[bs_size];exact hnl.1)) (Reps.nil _ _)) hr4 hg4 ha4
         exact hO.rep.ok fun b hb=>hb.elim (fun h=>h.elim) id
        replace hkz:=k7_grown hkz hg4 hzn
        refine rg_one 8 (by kernel_rfl) ?_
        refine tk_call 8 (some 54) 91 #[.pointer (some ⟨g,0,none⟩),.agg #[.int .i64 y.kind,.string (bs y.name),.string (bs y.text),.slice zab y.attrs.length zac,.slice zkb y.kids.length zkc],v4] rfl rfl (by rfl) (fun w'=>by first | rfl | go_simp) (R:=fun v w'=>∃(sq:Step) (nd:Node) (ka xa ya:Option Addr) (kn kc xn xc yn yc:Nat) (ev:Value),v= .tuple #[keyedV sq nd (.slice ka kn kc) (.slice xa xn xc) (.slice ya yn yc),ev]∧ChQ x4 g lv cr (A2+elemsN y) sq nd (.slice ka kn kc) (.slice xa xn xc) (.slice ya yn yc) ev w') ?_ ?_
        ·
         exact(HCH.out x4 v4 hEx4 hrp).mono fun e w' ⟨sq,nd,ka,xa,ya,kn,kc,xn,xc,yn,yc,ev,he,hq⟩=>⟨_,he,sq,nd,ka,xa,ya,kn,kc,xn,xc,yn,yc,ev,rfl,hq⟩
        rintro _ wq ⟨sq,nd,ka,xa,ya,kn,kc,xn,xc,yn,yc,ev,rfl,hQ⟩
        have hSwq:Sg g w5 wq:=YY.Exc.trans' ((Exc.refl g w5).ext (hEx4)) hQ.1
        refine⟨hSwq,?_⟩
        simp only[Act.put,sA,sZ,sS]
        have hEW:Ext w5 x4:=hEx4
        have hXc:Ext wq wq:=Ext.refl _
        have hzW:=hkz.lt
        replace hkz:=hkz.block hQ.1.1 (hQ.1.2 gz (by omega) hkz.lt)
        refine rg_t 9 (some 45) (.tuple #[keyedV sq nd (.slice ka kn kc) (.slice xa xn xc) (.slice ya yn yc),ev]) rfl hSwq (fun w' hs=>by rfl) ?_
        simp only[Act.put,sA,sZ,sS]
        refine rg_t 10 (some 55) (keyedV sq nd (.slice ka kn kc) (.slice xa xn xc) (.slice ya yn yc)) rfl hSwq (fun w' hs=>by first | rfl | go_simp) ?_
        simp only[Act.put,sA,sZ,sS]
        refine rg_t 11 (some 56) (ev) rfl hSwq (fun w' hs=>by first | rfl | go_simp) ?_
        simp only[Act.put,sA,sZ,sS]
        refine rg_one 13 (by kernel_rfl) ?_
        have hTT:=cht_before hQ hEW hz5 hzW lg5 hXc hkz
        refine tk_write 13 none (st7 wq gz sq nd (.slice ka kn kc) (.slice xa xn xc) (.slice ya yn yc)) (by rfl) rfl (by rfl) (exec_store rfl (store_keyed hkz _ _ _ _ _ _ _ _ _ _ _)) ?_
        have hSst:Sg g w5 (st7 wq gz sq nd (.slice ka kn kc) (.slice xa xn xc) (.slice ya yn yc)):=Exc.st7 hSwq hTT.2.1 _ _ _ _ _
        refine⟨hSst,?_⟩
        simp only[Act.put,sA,sZ,sS]
        refine rg_t 14 (some 14) (ev) rfl hSst (fun w' hs=>by rfl) ?_
        simp only[Act.put,sA,sZ,sS]
        refine rg_done (by kernel_rfl) ?_
        exact⟨u1,gb,v4,sq,nd,ka,xa,ya,kn,kc,xn,xc,yn,yc,ev,gz,(by first | rfl | simp only[Act.put,sA,sZ,sS]),hTT⟩
     rintro _ w6 ⟨u1,gb,v4,sq,nd,ka,xa,ya,kn,kc,xn,xc,yn,yc,ev,gz,rfl,hT⟩
     simp only[Act.put,sA,sZ,sS]
     cases cr with
     | inl c=>
      obtain rfl:R= .inl c:=HS.out
      obtain⟨hK7,hzz,hXq,b1,b2,rfl,hv⟩:=hT
      have HE6:Hid (Exc g w5 w6∧ErrV w6 w5.heap.size c.1 c.2 (.iface 116 (.pointer (some ⟨b1,0,none⟩)))):=Lh ⟨hXq,b1,b2,rfl,hv⟩
      clear n0 n1 n2 n3 n4 r1 hK7 hXq hv
      go_wp2_with fail
      go_ret2
      exact⟨YY.Exc.trans' HS5.out.1 HE6.out.1,_,rfl,HE6.out.2.low (by have:=HS5.out.1.1;omega)⟩
     | inr x=>
      obtain⟨hK7,hzz,hXq,rfl,rfl,rfl,hF6,hk6,hx6,hy6⟩:=hT
      obtain⟨_,_,ek,_,_⟩:=hk6.count z_str (by omega)
      obtain⟨rfl,rfl,rfl⟩:=Value.slice.inj ek
      obtain⟨_,_,ex,_,_⟩:=hx6.count z_attr (by omega)
      obtain⟨rfl,rfl,rfl⟩:=Value.slice.inj ex
      obtain⟨_,_,ey,_,_⟩:=hy6.count z_node (by omega)
      obtain⟨rfl,rfl,rfl⟩:=Value.slice.inj ey
      have hO6:=Own.exc HS5.out.2.2.1 hXq (Nat.lt_of_lt_of_le hlg (Nat.le_refl _)) (fun b hb=>by have hb':W.heap.size≤b:=hb;omega)
      have HCK:=Lh (contK_any acc (by omega) x.1 x.2 _ _ _ gz _ _ dv w6 hO6.rep hK7 hk6)
      have HS2:Hid (R=if anyS acc x.1=true then .inl (23,A2)else kidsP l path first (ks.drop (i+1)) (A2+elemsN y) (acc++ [x])):=Lh HS.out
      obtain⟨ab,hab⟩:∃b,anyS acc x.1=b:=⟨_,rfl⟩
      rw[hab]at HCK HS2
      have HK7:=Lh hK7
      have HO6:=Lh (And.intro hXq (And.intro hF6 (And.intro hk6 (And.intro hx6 (And.intro hy6 hO6)))))
      have hnlx:x.1.n.length≤9223372036854775807∧x.2.name.length≤9223372036854775807∧x.2.text.length≤9223372036854775807:=by have h1:=childP_bd HCB.out;have h2:=cntN_own x.2;have h3:=HCN.out;rw[h1.1];have:=hnl.1;omega
      clear hab hXq hF6 hk6 hx6 hy6 hO6 HS n0 n1 n2 n3 n4 r1 hK7
      cases ab with
      | true=>
       have HFA:=Lh fun X=>fail_any 23 A2 (by decide) X
       go_wp2_with fail
       refine HCK.out.mono ?_
       rintro e w7 ⟨rfl,hX7⟩
       go_wp2_with fail
       refine(HFA.out _).mono ?_
       rintro e w8 ⟨⟨v,rfl,hv⟩,hX8⟩
       go_wp2_with fail
       go_ret2
       rw[show R=_ from HS2.out]
       exact⟨((YY.Exc.trans' HS5.out.1 HO6.out.1).ext hX7).ext hX8,v,rfl,hv.low (by have:=HS5.out.1.1;have:=HO6.out.1.1;have:=hX7.size;omega)⟩
      | false=>
       go_wp2_with fail
       refine HCK.out.mono ?_
       rintro e w7 ⟨rfl,hX7⟩
       have hk7:=HK7.out.ext hX7
       have m0:=hk7.c0;have m1:=hk7.c1;have m2:=hk7.c2;have m3:=hk7.c3;have m4:=hk7.c4;have m5:=hk7.c5;have m6:=hk7.c6
       obtain⟨us,hrow,hreps⟩:=(Own.ext HO6.out.2.2.2.2.2 hX7).rows
       have HX7:=Lh (And.intro hX7 hreps)
       have hz7:W.heap.size≤w7.heap.size:=by have:=HS5.out.1.1;have:=HO6.out.1.1;have:=hX7.size;omega
       clear HCK hX7 hreps hk7
       go_wp2_with (at_builtin;refine wpList_append_own_at _ rfl (.tmp 65) (.tmp 67) _ rfl W.heap.size 98 j0 (.agg #[.string ⟨#[]⟩,.slice none 0 0,.int .i64 0,.string ⟨#[]⟩,.string ⟨#[]⟩,.slice none 0 0,.slice none 0 0]) 7 128 Tryz.underlying91 ji jz0 jz1 jz2 rfl (by decide) dv acc.length us rfl (hrow.alloc _) ⟨w7.heap.size,0,none⟩ 1 1 [.string (bs x.1.n),.slice ka x.1.key.length kc,.int .i64 x.2.kind,.string (bs x.2.name),.string (bs x.2.text),.slice xa x.2.attrs.length xc,.slice ya x.2.kids.length yc] rfl rfl (by have:=new_cells (w:=w7) (e:=98) [.string (bs x.1.n),.slice ka x.1.key.length kc,.int .i64 x.2.kind,.string (bs x.2.name),.string (bs x.2.text),.slice xa x.2.attrs.length xc,.slice ya x.2.kids.length yc];simpa using this) (by intro u hu;simp at hu;rcases hu with rfl | rfl | rfl | rfl | rfl | rfl | rfl<;> rfl) (by unfold maxLen;omega) (by omega) (by simp;omega) ?_;intro v2 w8 hown8 hgrow8 _ hat8)
       have hX8:Exc g W w8:=(((YY.Exc.trans' HS5.out.1 HO6.out.1).ext HX7.out.1).ext ((Ext.refl w7).alloc _)).grown hgrow8 fun k hk=>(hrow.lt k hk).1
       have hF7:=(HO6.out.2.1.ext HX7.out.1).ext ((Ext.refl w7).alloc (.cells #[.string (bs x.1.n),.slice ka x.1.key.length kc,.int .i64 x.2.kind,.string (bs x.2.name),.string (bs x.2.text),.slice xa x.2.attrs.length xc,.slice ya x.2.kids.length yc] 98))
       have hF8:FB w8 g lv (A2+elemsN y):=hF7.block hgrow8.size (hgrow8.block g hF7.lt fun e=>by have:=(hrow.lt g e.symm).1;omega)
       have hO8:Own w8 (fun b=>W.heap.size≤b) W.heap.size 98 7 v2 (acc++ [x]).length ((acc++ [x]).flatMap keyedC):=by
        rw[List.length_append,List.flatMap_append,List.flatMap_singleton,keyedC_eq]
        obtain⟨hXq,hF6,hk6,hx6,hy6,hO6⟩:=HO6.out
        obtain⟨hX7,hreps⟩:=HX7.out
        have hd:=HS5.out.2.2.2.2.2
        have h5:=HS5.out.1.1
        have h6:=HS5.out.2.2.2.2.1
        have hfr:∀(u:Value) (d:DV),Rep w6 (fun b=>w5.heap.size≤b) u d→Rep (w7.alloc (.cells #[.string (bs x.1.n),.slice ka x.1.key.length kc,.int .i64 x.2.kind,.string (bs x.2.name),.string (bs x.2.text),.slice xa x.2.attrs.length xc,.slice ya x.2.kids.length yc] 98)) (fun b=>(W.heap.size≤b∧some b≠dv.ownBlock)∧b< (w7.alloc (.cells #[.string (bs x.1.n),.slice ka x.1.key.length kc,.int .i64 x.2.kind,.string (bs x.2.name),.string (bs x.2.text),.slice xa x.2.attrs.length xc,.slice ya x.2.kids.length yc] 98)).heap.size) u d:=fun u d h=>((h.ext hX7).ext ((Ext.refl w7).alloc _)).lt.ok fun b hb=>⟨⟨by have:=hb.1;omega,fun e=>by have:=(hd b e.symm).2;have:=hb.1;omega⟩,hb.2⟩
        refine Own.push (us:=us) ?_ (Reps.cons (Rep.string _ _ _ (by rw[bs_size];exact hnlx.1)) (Reps.cons (e:=strsD x.1.key) ?_ (Reps.cons (Rep.int _ _ _ _) (Reps.cons (Rep.string _ _ _ (by rw[bs_size];exact hnlx.2.1)) (Reps.cons (Rep.string _ _ _ (by rw[bs_size];exact hnlx.2.2)) (Reps.cons (e:=attrsD x.2.attrs) ?_ (Reps.cons (e:=nodesD x.2.kids) ?_ (Reps.nil _ _)))))))) hown8 hgrow8 hat8
        ·
         exact(hreps.ext ((Ext.refl w7).alloc _)).ok fun b hb=>⟨hb.1,hb.2.1,by simp;omega⟩
        ·
         exact(hfr _ _ hk6).ok fun b hb=>⟨hb.1.1,hb.1.2,hb.2⟩
        ·
         exact(hfr _ _ hx6).ok fun b hb=>⟨hb.1.1,hb.1.2,hb.2⟩
        ·
         exact(hfr _ _ hy6).ok fun b hb=>⟨hb.1.1,hb.1.2,hb.2⟩
       have HF8:=Lh (And.intro hX8 (And.intro hF8 hO8))
       clear hown8 hgrow8 hat8 hrow hX8 hF8 hO8 hF7 HX7
       go_wp2_with fail
       go_roundw
       case rel=>exact⟨i+1,acc++ [x],v2,by go_num,rfl,by omega,by rw[List.length_append];simp;omega,Lh HF8.out.1,Lh (by rw[HAN.out.2.1];exact⟨HF8.out.2.1,HF8.out.2.2,(HS2.out.trans (if_neg (by simp))).symm⟩)⟩
       case measure=>simp only[downV];omega
    ·
     have q1:(y.kind !=1)=true:=by rw[bne_iff_ne];exact hk1
     have HN:Hid (kidsP l path first (ks.drop (i+1)) A2 acc=R):=Lh (by rw[←HS5.out.2.2.2.1,HS.out,if_neg (fun h=>hk2 h.1),if_pos hk1])
     have HEY:=Lh (elemsN_0 y hk1)
     clear hk1 hk2 HS HCH HT
     go_wp2_with fail
     go_roundw
     case rel=>exact⟨i+1,acc,dv,by go_num,rfl,by omega,by omega,Lh HS5.out.1,Lh (by rw[HAN.out.2.1,HEY.out,show A2+((0:Nat):Int)=A2 by omega];exact⟨HS5.out.2.1,HS5.out.2.2.1,HN.out⟩)⟩
     case measure=>simp only[downV];omega
  ·
   have hlI:¬(i:Int)< (ks.length:Int):=by omega
   obtain rfl: .inr acc=R:=by have:=HI.out.2.2;rw[List.drop_of_length_le (by omega),kidsP]at this;exact this
   have HF:Hid (FB wr g lv (first+elemsN n)):=Lh (by have:=HI.out.1;rw[List.take_of_length_le (by omega)]at this;have h2:=HH.out;rw[show first+(elemsN n:Int)=F1+elemsL ks by omega];exact this)
   have HO:=Lh (And.intro HI.out.2.1 HX.out)
   have hal:acc.length≤1048576:=by omega
   clear HI HX
   go_wp2_with fail
   go_ret2
   exact⟨HO.out.2,HF.out,dv,rfl,hal,HO.out.1⟩
end Go.Proofs.YtcfibjiikhnfhaaGreatDoor
