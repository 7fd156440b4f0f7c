/-
 The builder's comments and instructions. Helper lemmas;no statement of the seat is proved here.
-/
import Derived.Test.YtcfibjiikhnfhaaGreatDoorU23
namespace Go.Proofs.YtcfibjiikhnfhaaGreatDoor
open Go.RowKit
set_option maxHeartbeats 32000000
set_option maxRecDepth 100000
set_option linter.unusedVariables false
set_option linter.unusedSimpArgs false
section
variable {B0 g:Nat} {W0 W W':World} {L R:List Lv} {l:Lv} {ov:Value} {rn:Node} {ra rk:Value} {tx tx':Bytes} {nn nn':Nat} {rt rt':Bool}
theorem other_any (h:BT B0 g W0 W (l::R) ov rn ra rk tx nn rt) (t:TokX) (k:Int) (va:Value) (hva:Rep W (fun b=>B0≤b∧b< W0.heap.size) va (attrsD t.attrs)) (hn:nn+1≤4096) (htx:tx.length≤65536) (hkl:l.n.kids.length≤1048576) (hkl2:(flN l.n tx).kids.length≤1048576) (hRl:R.length≤1000) (hnm:t.name.length≤65536) (htl:t.text.length≤65536):
  Calls Tryz.prog 67 #[.pointer (some ⟨g,0,none⟩),.agg #[.int .i64 t.kind,.int .i64 (t.at':Nat),.string (bs t.name),.string (bs t.text),va],.int .i64 k] W fun e w'=>e= .returned (.int .i64 0)∧∃l',l'.n=addKid (flN l.n tx) (.mk k t.name t.text [] [])∧BT B0 g W0 w' (l'::R) ov rn ra rk [] (nn+1) rt:=by
 obtain⟨xa,xac,rfl,_,_⟩:=hva.count z_attr (by omega)
 obtain⟨w1,hw1⟩:∃X,W.alloc (.cells #[.int .i64 t.kind,.int .i64 (t.at':Nat),.string (bs t.name),.string (bs t.text),.slice xa t.attrs.length xac] 75)=X:=⟨_,rfl⟩
 obtain⟨t3,ht3⟩:∃t,W.heap.size=t:=⟨_,rfl⟩
 have hE1:Ext W w1:=by rw[←hw1];exact(Ext.refl W).alloc _
 have hb1:w1.heap[t3]? =some (.cells #[.int .i64 t.kind,.int .i64 (t.at':Nat),.string (bs t.name),.string (bs t.text),.slice xa t.attrs.length xac] 75 (0,0)):=by rw[←hw1,←ht3];exact Array.getElem?_push_size ..
 have h1:=h.ext' hE1
 have HM:Hid (¬Mut B0 g ov (l::R) t3):=Lh (fun hm=>by
  have h5:=blk_lt h.blk
  have h7:=h.hb0
  rcases hm with e | e | ⟨y,hy,e⟩
  ·
   omega
  ·
   have:=(h.row.lt t3 e.symm).2;omega
  ·
   have h6:=h.lvlt hy
   rcases e with e | e
   ·
    omega
   ·
    have:=h6.2 t3 e.symm;omega)
 have hgt:g< t3:=by have:=blk_lt h.blk;omega
 have HC:=Lh (count_any h1 1 hn)
 have H1:=Lh hb1
 clear h hva h1 hb1 hE1
 go_enter Tryz.func67,Tryz.ntmps67
 go_wp2_with fail
 try rw[ht3]
 refine HC.out.mono ?_
 rintro e w2 ⟨rfl,h2,hX2⟩
 have hb2:=(hX2.2 t3 (by omega) (blk_lt H1.out)).trans H1.out
 have H2:=Lh (And.intro h2 hb2)
 clear h2 hX2 hb2 HC hw1
 go_wp2_with fail
 refine(flush_any H2.out.1 htx hkl hRl).mono ?_
 rintro e w3 ⟨rfl,⟨l',hl',h3⟩,hC3⟩
 have hb3:=(hC3.blk t3 HM.out (blk_lt H2.out.2)).trans H2.out.2
 have y2:=blk_cell hb3 (k:=2) rfl
 have y3:=blk_cell hb3 (k:=3) rfl
 have H3:=Lh (And.intro h3 hl')
 clear h3 hl' hC3 hb3 H2 H1
 go_wp2_with fail
 refine(put_top H3.out.1 (.mk k t.name t.text [] []) (.slice none 0 0) (.slice none 0 0) (.nil 2) (.nil 5) hnm htl (by rw[H3.out.2];exact hkl2) hRl).mono ?_
 rintro e w4 ⟨rfl,⟨vk',h4⟩,hC4⟩
 have H4:=Lh h4
 clear h4 hC4 y2 y3
 go_wp2_with fail
 go_ret
 exact⟨rfl,_,by show addKid l'.n _=_;rw[H3.out.2],H4.out⟩
end
structure St where
 P:List Node
 rn:Node
 tx:Bytes
 nn:Nat
 rt:Bool
def okK (P:List Node):Bool:=P.all fun n=>decide (n.kids.length≤1048576)
def startT (st:St) (t:TokX):Option St:=
 if(decide (st.P.length< 32) && decide (st.nn+(1+t.attrs.length)≤4096) && (!st.P.isEmpty || (st.tx.isEmpty && !st.rt)) && decide (st.tx.length≤65536) && okK st.P && decide (t.name.length≤65536))=true then
  some ⟨.mk 1 t.name [] t.attrs []::flP st.P st.tx,st.rn,[],st.nn+(1+t.attrs.length),st.P.isEmpty || st.rt⟩else none
def endT (st:St):Option St:=match st.P with
 | []=>none
 | [n]=>if(decide (st.tx.length≤65536) && okK [n] && decide (n.kind=1))=true then some ⟨[],flN n st.tx,[],st.nn,true⟩else none
 | n::m::Q=>if(decide (st.tx.length≤65536) && okK (n::m::Q) && decide (Q.length≤999))=true then some ⟨addKid m (flN n st.tx)::Q,st.rn,[],st.nn,st.rt⟩else none
def charT (st:St) (t:TokX):Option St:=match st.P with
 | []=>none
 | _::_=>if(st.tx.isEmpty && !t.text.isEmpty && decide (st.nn+1≤4096) && decide (t.text.length≤65536))=true then some ⟨st.P,st.rn,t.text,st.nn+1,st.rt⟩else none
def otherT (st:St) (k:Int) (t:TokX):Option St:=match st.P with
 | []=>none
 | n::R=>if(decide (st.nn+1≤4096) && decide (st.tx.length≤65536) && okK (n::R) && decide (R.length≤999) && decide (t.text.length≤65536) && decide (t.name.length≤65536) && decide ((flN n st.tx).kids.length≤1048576))=true then some ⟨addKid (flN n st.tx) (.mk k t.name t.text [] [])::R,st.rn,[],st.nn+1,st.rt⟩else none
def stepT (st:St) (t:TokX):Option St:=
 if t.kind=1 then startT st t else if t.kind=2 then(startT st t).bind endT
 else if t.kind=3 then(match st.P with
  | n::_=>if n.name=t.name∧st.P.length≤1000 then endT st else none
  | []=>none)
 else if t.kind=4 then charT st t else if t.kind=6 then otherT st 3 t else if t.kind=7 then otherT st 4 t else none
def BS (B0 g:Nat) (W0 W:World) (st:St):Prop:=∃L ov ra rk,L.map Lv.n=st.P∧BT B0 g W0 W L ov st.rn ra rk st.tx st.nn st.rt
theorem okK_mem {P:List Node} {L:List Lv} (h:okK P=true) (hL:L.map Lv.n=P):∀l∈L,l.n.kids.length≤1048576:=fun l hl=>by
 unfold okK at h
 exact of_decide_eq_true (List.all_eq_true.1 h l.n (by rw[←hL];exact List.mem_map_of_mem hl))
section
variable {B0 g:Nat} {W0 W W':World} {st st':St}
theorem BS.ext (h:BS B0 g W0 W st) (hE:Ext W W'):BS B0 g W0 W' st:=by
 obtain⟨L,ov,ra,rk,h1,h2⟩:=h
 exact⟨L,ov,ra,rk,h1,h2.ext' hE⟩
theorem BS.base (h:BS B0 g W0 W st):Ext W0 W:=by
 obtain⟨L,ov,ra,rk,h1,h2⟩:=h
 exact h2.ext
theorem startX (h:BS B0 g W0 W st) (t:TokX) (va:Value) (hva:Rep W (fun b=>B0≤b∧b< W0.heap.size) va (attrsD t.attrs)) (hs:startT st t=some st'):
  Calls Tryz.prog 65 #[.pointer (some ⟨g,0,none⟩),.agg #[.int .i64 t.kind,.int .i64 (t.at':Nat),.string (bs t.name),.string (bs t.text),va]] W fun e w'=>e= .returned (.int .i64 0)∧BS B0 g W0 w' st':=by
 obtain⟨L,ov,ra,rk,hL,hB⟩:=h
 unfold startT at hs
 split at hs
 ·
  rename_i hc
  simp only[Bool.and_eq_true,Bool.or_eq_true,Bool.not_eq_true',decide_eq_true_eq]at hc
  obtain⟨⟨⟨⟨⟨c1,c2⟩,c3⟩,c4⟩,c5⟩,c6⟩:=hc
  obtain rfl:=Option.some.inj hs
  have hlen:L.length=st.P.length:=by rw[←hL,List.length_map]
  refine(start_any hB t va hva (by omega) c2 (fun e=> ?_) c4 (okK_mem c5 hL) c6).mono ?_
  ·
   subst e
   rw[←hL]at c3
   simp at c3
   exact c3
  ·
   rintro e w' ⟨rfl,L',ov',h1,h2⟩
   refine⟨rfl,L',ov',ra,rk,by rw[h1,hL],?_⟩
   have e1:decide (L= [])=st.P.isEmpty:=by rw[←hL];cases L<;> rfl
   rw[e1]at h2
   exact h2
 ·
  cases hs
theorem endX (h:BS B0 g W0 W st) (hs:endT st=some st'):Calls Tryz.prog 66 #[.pointer (some ⟨g,0,none⟩)] W fun e w'=>e= .returned (.tuple #[])∧BS B0 g W0 w' st':=by
 obtain⟨L,ov,ra,rk,hL,hB⟩:=h
 unfold endT at hs
 split at hs
 ·
  cases hs
 ·
  rename_i n hP
  split at hs
  ·
   rename_i hc
   simp only[Bool.and_eq_true,decide_eq_true_eq]at hc
   obtain rfl:=Option.some.inj hs
   rw[hP]at hL
   obtain⟨l,rfl,rfl⟩:∃l,L= [l]∧l.n=n:=by
    match L,hL with
    | [l],hL=>exact⟨l,rfl,by simpa using hL⟩
   refine(bend_root hB hc.1.1 (okK_mem (L:= [l]) hc.1.2 rfl l (List.mem_cons_self ..)) hc.2).mono ?_
   rintro e w' ⟨rfl,ov',ra',rk',h2⟩
   exact⟨rfl,[],ov',ra',rk',rfl,h2⟩
  ·
   cases hs
 ·
  rename_i n m Q hP
  split at hs
  ·
   rename_i hc
   simp only[Bool.and_eq_true,decide_eq_true_eq]at hc
   obtain rfl:=Option.some.inj hs
   rw[hP]at hL
   obtain⟨l,l2,R,rfl,rfl,rfl,rfl⟩:∃l l2 R,L=l::l2::R∧l.n=n∧l2.n=m∧R.map Lv.n=Q:=by
    match L,hL with
    | l::l2::R,hL=>simp at hL;exact⟨l,l2,R,rfl,hL.1,hL.2.1,hL.2.2⟩
   have hk:=okK_mem (L:=l::l2::R) hc.1.2 rfl
   refine(bend_up hB hc.1.1 (hk l (List.mem_cons_self ..)) (hk l2 (List.mem_cons_of_mem _ (List.mem_cons_self ..))) (by simpa using hc.2)).mono ?_
   rintro e w' ⟨rfl,ov',vk',h2⟩
   exact⟨rfl,_,ov',ra,rk,by simp,h2⟩
  ·
   cases hs
theorem charX (h:BS B0 g W0 W st) (t:TokX) (va:Value) (hva:Rep W (fun b=>B0≤b∧b< W0.heap.size) va (attrsD t.attrs)) (hs:charT st t=some st'):
  Calls Tryz.prog 68 #[.pointer (some ⟨g,0,none⟩),.agg #[.int .i64 t.kind,.int .i64 (t.at':Nat),.string (bs t.name),.string (bs t.text),va]] W fun e w'=>e= .returned (.int .i64 0)∧BS B0 g W0 w' st':=by
 obtain⟨L,ov,ra,rk,hL,hB⟩:=h
 unfold charT at hs
 split at hs
 ·
  cases hs
 ·
  rename_i n Q hP
  split at hs
  ·
   rename_i hc
   simp only[Bool.and_eq_true,Bool.not_eq_true',decide_eq_true_eq]at hc
   obtain⟨⟨⟨c1,c2⟩,c3⟩,c4⟩:=hc
   obtain rfl:=Option.some.inj hs
   have htx:st.tx= []:=by cases h':st.tx with
    | nil=>rfl
    | cons a b=>rw[h']at c1;cases c1
   rw[htx]at hB
   obtain⟨l,R,rfl⟩:∃l R,L=l::R:=by
    match L,hL with
    | [],hL=>rw[hP]at hL;cases hL
    | l::R,_=>exact⟨l,R,rfl⟩
   refine(bchars_any hB t va hva c3 (fun e=>by rw[e]at c2;cases c2) c4).mono ?_
   rintro e w' ⟨rfl,h2⟩
   exact⟨rfl,_,ov,ra,rk,hL,h2⟩
  ·
   cases hs
theorem otherX (h:BS B0 g W0 W st) (t:TokX) (k:Int) (va:Value) (hva:Rep W (fun b=>B0≤b∧b< W0.heap.size) va (attrsD t.attrs)) (hs:otherT st k t=some st'):
  Calls Tryz.prog 67 #[.pointer (some ⟨g,0,none⟩),.agg #[.int .i64 t.kind,.int .i64 (t.at':Nat),.string (bs t.name),.string (bs t.text),va],.int .i64 k] W fun e w'=>e= .returned (.int .i64 0)∧BS B0 g W0 w' st':=by
 obtain⟨L,ov,ra,rk,hL,hB⟩:=h
 unfold otherT at hs
 split at hs
 ·
  cases hs
 ·
  rename_i n Q hP
  split at hs
  ·
   rename_i hc
   simp only[Bool.and_eq_true,decide_eq_true_eq]at hc
   obtain⟨⟨⟨⟨⟨⟨c1,c2⟩,c3⟩,c4⟩,c5⟩,c6⟩,c7⟩:=hc
   obtain rfl:=Option.some.inj hs
   obtain⟨l,R,rfl,rfl,rfl⟩:∃l R,L=l::R∧l.n=n∧R.map Lv.n=Q:=by
    match L,hL with
    | [],hL=>rw[hP]at hL;cases hL
    | l::R,hL=>rw[hP]at hL;simp at hL;exact⟨l,R,rfl,hL.1,hL.2⟩
   have hlk:=okK_mem (L:=l::R) c3 rfl l (List.mem_cons_self ..)
   refine(other_any hB t k va hva c1 c2 hlk c7 (by rw[List.length_map]at c4;omega) c6 c5).mono ?_
   rintro e w' ⟨rfl,l',hl',h2⟩
   exact⟨rfl,l'::R,ov,ra,rk,by rw[List.map_cons,hl'],h2⟩
  ·
   cases hs
theorem tok_any (h:BS B0 g W0 W st) (t:TokX) (va:Value) (hva:Rep W (fun b=>B0≤b∧b< W0.heap.size) va (attrsD t.attrs)) (hs:stepT st t=some st'):
  Calls Tryz.prog 30 #[.pointer (some ⟨g,0,none⟩),.agg #[.int .i64 t.kind,.int .i64 (t.at':Nat),.string (bs t.name),.string (bs t.text),va]] W fun e w'=>e= .returned (.int .i64 0)∧BS B0 g W0 w' st':=by
 obtain⟨xa,xac,rfl,_,_⟩:=hva.count z_attr (by omega)
 obtain⟨w1,hw1⟩:∃X,W.alloc (.cells #[.int .i64 t.kind,.int .i64 (t.at':Nat),.string (bs t.name),.string (bs t.text),.slice xa t.attrs.length xac] 75)=X:=⟨_,rfl⟩
 obtain⟨t3,ht3⟩:∃t,W.heap.size=t:=⟨_,rfl⟩
 have hE1:Ext W w1:=by rw[←hw1];exact(Ext.refl W).alloc _
 have hb1:w1.heap[t3]? =some (.cells #[.int .i64 t.kind,.int .i64 (t.at':Nat),.string (bs t.name),.string (bs t.text),.slice xa t.attrs.length xac] 75 (0,0)):=by rw[←hw1,←ht3];exact Array.getElem?_push_size ..
 have h1:=h.ext hE1
 have hv1:=hva.ext hE1
 have y0:=blk_cell hb1 (k:=0) rfl;have y1:=blk_cell hb1 (k:=1) rfl;have y2:=blk_cell hb1 (k:=2) rfl;have y3:=blk_cell hb1 (k:=3) rfl;have y4:=blk_cell hb1 (k:=4) rfl
 have HB:=Lh (And.intro h1 (And.intro hv1 hb1))
 clear h hva hv1 hb1 h1 hE1
 unfold stepT at hs
 split at hs
 ·
  rename_i hk
  have HS:=Lh (startX HB.out.1 t _ HB.out.2.1 hs)
  rw[hk]at y0 HS⊢
  go_enter Tryz.func30,Tryz.ntmps30
  rw[hk]at hw1
  go_wp2_with fail
  refine HS.out.mono ?_
  rintro e w2 ⟨rfl,h2⟩
  go_wp2_with fail
  go_ret
  exact⟨rfl,h2⟩
 ·
  split at hs
  ·
   rename_i hk1 hk
   cases hst:startT st t with
   | none=>rw[hst]at hs;cases hs
   | some st1=>
    rw[hst]at hs
    replace hs:endT st1=some st':=hs
    have HS:=Lh (startX HB.out.1 t _ HB.out.2.1 hst)
    have HE:=Lh hs
    clear hs hst
    rw[hk]at y0 HS hw1⊢
    clear hk1 hk
    go_enter Tryz.func30,Tryz.ntmps30
    go_wp2_with fail
    refine HS.out.mono ?_
    rintro e w2 ⟨rfl,h2⟩
    have HF:=Lh (endX h2 HE.out)
    clear h2 HS
    go_wp2_with fail
    refine HF.out.mono ?_
    rintro e w3 ⟨rfl,h3⟩
    go_wp2_with fail
    go_ret
    exact⟨rfl,h3⟩
  ·
   split at hs
   ·
    rename_i hk1 hk2 hk
    split at hs
    ·
     rename_i n Q hP
     split at hs
     ·
      rename_i hnm
      obtain⟨L,ov,ra,rk,hL,hB⟩:=HB.out.1
      obtain⟨l,R,rfl,rfl⟩:∃l R,L=l::R∧l.n=n:=by
       match L,hL with
       | [],hL=>rw[hP]at hL;cases hL
       | l::R,hL=>rw[hP]at hL;simp at hL;exact⟨l,R,rfl,hL.1⟩
      obtain⟨ob,oc,ocur,hov,hob,_,hoc,_,_,_⟩:=own_blk hB.row (Nat.succ_pos _)
      have c7:=blk_cell hB.blk (k:=7) rfl
      rw[hov]at c7
      have hrc:w1.cell? ⟨ob,R.length,none⟩=some (.pointer (some ⟨l.b,0,none⟩)):=by
       have hr:=hB.row
       rw[hov]at hr
       have:=hr.cells (g:=ob) rfl R.length (.pointer (some ⟨l.b,0,none⟩)) (by rw[List.getElem?_map,List.reverse_cons,List.getElem?_append_right (by simp)];simp)
       rw[add_offs',Nat.zero_add]at this
       exact this
      obtain⟨N,hN⟩:∃N,R.length=N:=⟨_,rfl⟩
      have hcl:(l::R).length=N+1:=by rw[List.length_cons,hN]
      have hN1000:N≤1000:=by have:=congrArg List.length hL;rw[List.length_map]at this;omega
      rw[hcl]at c7
      rw[hN]at hrc
      have n1:=blk_cell (hB.lv l (List.mem_cons_self ..)).blk (k:=1) rfl
      rw[hnm.1]at n1
      have hNI:(N:Int)< (N:Int)+1:=by omega
      have hNo:N< oc:=by omega
      have hN0:(0:Int)≤(N:Int):=by omega
      have hI:(((N:Int)+1)==0)=false:=by rw[beq_eq_false_iff_ne];omega
      have hsub:((N:Int)+1) - 1=(N:Int):=by omega
      have hwr:IntKind.i64.wrap (N:Int)=(N:Int):=by rw[IntKind.wrap_i64];omega
      have hse:((bs t.name).toList==(bs t.name).toList)=true:=beq_self_eq_true _
      have HE:=Lh hs
      rw[hk]at y0 hw1⊢
      clear hk1 hk2 hk hB hL hP hcl hov hs hnm hN
      go_enter Tryz.func30,Tryz.ntmps30
      go_wp2_with fail
      go_quiet (fail)
      obtain⟨w2,hw2⟩:∃w,w1.drewN nq=w:=⟨_,rfl⟩
      have Ehw2:Ext w1 w2:=by rw[←hw2];exact(Ext.refl w1).drewN _
      rw[hw2]
      have HF:=Lh (endX (HB.out.1.ext Ehw2) HE.out)
      clear c7 hrc n1 hw2 Ehw2
      go_wp2_with fail
      refine HF.out.mono ?_
      rintro e w3 ⟨rfl,h3⟩
      go_wp2_with fail
      go_ret
      exact⟨rfl,h3⟩
     ·
      cases hs
    ·
     cases hs
   ·
    split at hs
    ·
     rename_i hk1 hk2 hk3 hk
     have HS:=Lh (charX HB.out.1 t _ HB.out.2.1 hs)
     rw[hk]at y0 HS hw1⊢
     clear hk1 hk2 hk3 hk
     go_enter Tryz.func30,Tryz.ntmps30
     go_wp2_with fail
     refine HS.out.mono ?_
     rintro e w2 ⟨rfl,h2⟩
     go_wp2_with fail
     go_ret
     exact⟨rfl,h2⟩
    ·
     split at hs
     ·
      rename_i hk1 hk2 hk3 hk4 hk
      have HS:=Lh (otherX HB.out.1 t 3 _ HB.out.2.1 hs)
      rw[hk]at y0 HS hw1⊢
      clear hk1 hk2 hk3 hk4 hk
      go_enter Tryz.func30,Tryz.ntmps30
      go_wp2_with fail
      refine HS.out.mono ?_
      rintro e w2 ⟨rfl,h2⟩
      go_wp2_with fail
      go_ret
      exact⟨rfl,h2⟩
     ·
      split at hs
      ·
       rename_i hk1 hk2 hk3 hk4 hk5 hk
       have HS:=Lh (otherX HB.out.1 t 4 _ HB.out.2.1 hs)
       rw[hk]at y0 HS hw1⊢
       clear hk1 hk2 hk3 hk4 hk5 hk
       go_enter Tryz.func30,Tryz.ntmps30
       go_wp2_with fail
       refine HS.out.mono ?_
       rintro e w2 ⟨rfl,h2⟩
       go_wp2_with fail
       go_ret
       exact⟨rfl,h2⟩
      ·
       cases hs
end
def foldT:St→List TokX→Option St
 | st,[]=>some st
 | st,t::r=>(stepT st t).bind fun s=>foldT s r
def st0:St:=⟨[],.mk 0 [] [] [] [],[],0,false⟩
theorem tk_at {w:World} {p:Nat→Prop} {a:Option Addr} {len cap:Nat} {l:List TokX} (h:Rep w p (.slice a len cap) (tksD l)) (i:Nat) (hi:i< l.length):
  ∃b off x,a=some ⟨b,off,none⟩∧b< w.heap.size∧w.cell? ⟨b,off+i*5,none⟩=some (.int .i64 l[i].kind)∧w.cell? ⟨b,off+i*5+1,none⟩=some (.int .i64 l[i].at')∧w.cell? ⟨b,off+i*5+2,none⟩=some (.string (bs l[i].name))∧w.cell? ⟨b,off+i*5+3,none⟩=some (.string (bs l[i].text))∧w.cell? ⟨b,off+i*5+4,none⟩=some x∧Rep w p x (attrsD l[i].attrs):=by
 obtain⟨b,off,ha,hb,hp,hc⟩:=elem_at z_tk h (by omega) i hi
 obtain⟨u,hu,hr⟩:=hc 0 _ rfl
 obtain⟨u1,hu1,hr1⟩:=hc 1 _ rfl
 obtain⟨u2,hu2,hr2⟩:=hc 2 _ rfl
 obtain⟨u3,hu3,hr3⟩:=hc 3 _ rfl
 obtain⟨u4,hu4,hr4⟩:=hc 4 _ rfl
 exact⟨b,off,u4,ha,hb,by rw[←hr.is];exact hu,by rw[←hr1.is];exact hu1,by rw[←hr2.is];exact hu2,by rw[←hr3.is];exact hu3,hu4,hr4⟩
theorem load_doc {W:World} {b:Nat} {a0 a1 a2 a3 a4 a5 a6:Value} (h:W.heap[b]? =some (.cells #[a0,a1,a2,a3,a4,a5,a6] 39 (0,0))):(loadVar 39 ⟨b,0,none⟩).run Tryz.prog W= .ok (.agg #[a0,a1,a2,a3,a4,a5,a6]) W:=by
 have c0:=blk_cell h (k:=0) rfl;have c1:=blk_cell h (k:=1) rfl;have c2:=blk_cell h (k:=2) rfl;have c3:=blk_cell h (k:=3) rfl;have c4:=blk_cell h (k:=4) rfl;have c5:=blk_cell h (k:=5) rfl;have c6:=blk_cell h (k:=6) rfl
 go_simp
theorem parse_any (s:Bytes) (hs:0< s.length) (hl:s.length≤65536) (hb:badS s= -1) (hd:hasS s [60,63,120,109,108]=false) (ts:List TokX) (hT:TksR s 0 ts) (rn:Node) (nn:Nat) (hf:foldT st0 ts=some ⟨[],rn,[],nn,true⟩) (htl:ts.length≤65536) (p:Nat→Prop) (v:Value) (w:World) (hE:EN w) (hv:Rep w p v (numsD .u8 (byI s))):
  Calls Tryz.prog 12 #[v] w fun ed w'=>∃ra rk,ed= .returned (.tuple #[.agg #[.slice none 0 0,.int .i64 rn.kind,.string (bs rn.name),.string (bs rn.text),ra,rk,.slice none 0 0],.nilIface])∧Rep w' (fun _=>True) ra (attrsD rn.attrs)∧Rep w' (fun _=>True) rk (nodesD rn.kids)∧Ext w w':=by
 obtain⟨w1,hw1⟩:∃X,w.alloc (.cells #[.slice none 0 0,.int .i64 0,.string ⟨#[]⟩,.string ⟨#[]⟩,.slice none 0 0,.slice none 0 0,.slice none 0 0] 39)=X:=⟨_,rfl⟩
 obtain⟨r,hr⟩:∃r,w.heap.size=r:=⟨_,rfl⟩
 have hE1:Ext w w1:=by rw[←hw1];exact(Ext.refl w).alloc _
 have hb1:w1.heap[r]? =some (.cells #[.slice none 0 0,.int .i64 0,.string ⟨#[]⟩,.string ⟨#[]⟩,.slice none 0 0,.slice none 0 0,.slice none 0 0] 39 (0,0)):=by rw[←hw1,←hr];exact Array.getElem?_push_size ..
 have HA:=Lh (all_any s hs hl hb hd ts hT p v w1 (hE.ext hE1) (hv.ext hE1))
 have HF:=Lh hf
 have HB1:=Lh (And.intro hE1 hb1)
 clear hT hf hv hE1 hb1 hE hb hd
 go_enter Tryz.func12,Tryz.ntmps12
 go_wp2_with fail
 refine HA.out.mono ?_
 rintro e w2 ⟨va,rfl,hva,hE2⟩
 obtain⟨ta,tc,rfl,_,_⟩:=hva.count z_tk (by omega)
 obtain⟨w3,hw3⟩:∃X,w2.alloc (.cells #[.slice none 0 0,.int .i64 0,.string ⟨#[]⟩,.string ⟨#[]⟩,.slice none 0 0,.slice none 0 0,.slice none 0 0,.slice none 0 0,.string ⟨#[]⟩,.int .i64 0,.bool false] 73)=X:=⟨_,rfl⟩
 obtain⟨g,hg⟩:∃g,w2.heap.size=g:=⟨_,rfl⟩
 have hE3:Ext w2 w3:=by rw[←hw3];exact(Ext.refl w2).alloc _
 have hb3:w3.heap[g]? =some (.cells #[.slice none 0 0,.int .i64 0,.string ⟨#[]⟩,.string ⟨#[]⟩,.slice none 0 0,.slice none 0 0,.slice none 0 0,.slice none 0 0,.string ⟨#[]⟩,.int .i64 0,.bool false] 73 (0,0)):=by rw[←hw3,←hg];exact Array.getElem?_push_size ..
 have hBS:BS w1.heap.size g w2 w3 st0:=⟨[],.slice none 0 0,.slice none 0 0,.slice none 0 0,rfl,hE3,by omega,by have:=hE2.size;omega,hb3,World.ownsRow_nil _ _ _ _,(fun l hl=>by cases hl),.nil,.nil 2,.nil 5⟩
 have HS:=Lh (And.intro hBS HF.out)
 have HV:=Lh (And.intro hva hE2)
 have HG:=Lh hg
 clear HA hva hE2 hE3 hb3 hBS HF hg
 go_wp2_with fail
 rw[HG.out]
 clear hw3
 go_loopw [8,9,23] (fun _ _ u23 wr=>∃(k:Nat) (st:St),u23= .int .i64 k∧k≤ts.length∧Hid (BS w1.heap.size g w2 wr st∧foldT st (ts.drop k)=some ⟨[],rn,[],nn,true⟩)) (fun _ _ u23 _=>downV ts.length u23)
 case atStart=>exact⟨0,st0,rfl,Nat.zero_le _,HS⟩
 case round=>
  clear HS
  obtain⟨k,st,rfl,hk,HI⟩:=hrel
  by_cases hkl:k< ts.length
  ·
   have hkI:(k:Int)< (ts.length:Int):=by omega
   have hk0:(0:Int)≤(k:Int):=by omega
   have hX:=HI.out.1.base
   obtain⟨tb,to',x,rfl,htb,y0,y1,y2,y3,y4,hx⟩:=tk_at (HV.out.1.lt.ext hX) k hkl
   obtain⟨xa,xac,rfl,_,_⟩:=hx.count z_attr (by omega)
   have hfk:=HI.out.2
   rw[drop_one ts k hkl]at hfk
   obtain⟨t,ht⟩:∃t,ts[k]=t:=⟨_,rfl⟩
   rw[ht]at y0 y1 y2 y3 y4 hx hfk
   cases hst:stepT st t with
   | none=>rw[foldT,hst]at hfk;cases hfk
   | some st1=>
    rw[foldT,hst]at hfk
    replace hfk:foldT st1 (ts.drop (k+1))=some ⟨[],rn,[],nn,true⟩:=hfk
    have hE:Ext wr (wr.alloc (.cells #[.int .i64 t.kind,.int .i64 (t.at':Nat),.string (bs t.name),.string (bs t.text),.slice xa t.attrs.length xac] 75)):=(Ext.refl wr).alloc _
    have HC:=Lh (tok_any (HI.out.1.ext hE) t (.slice xa t.attrs.length xac) ((hx.ext hE).ok fun b hb=>hb) hst)
    have HFK:=Lh hfk
    clear ht hst hfk hX hE hx HI
    go_wp2_with fail
    refine HC.out.mono ?_
    rintro e w4 ⟨rfl,h4⟩
    clear HC
    have H4:=Lh h4
    clear h4
    go_wp2_with fail
    go_roundw
    case rel=>exact⟨k+1,st1,by go_num,by omega,Lh ⟨H4.out,HFK.out⟩⟩
    case measure=>simp only[downV];omega
  ·
   have hkI:¬(k:Int)< (ts.length:Int):=by omega
   have hfk:=HI.out.2
   rw[List.drop_of_length_le (by omega)]at hfk
   obtain rfl:st=⟨[],rn,[],nn,true⟩:=Option.some.inj hfk
   obtain⟨L,ov,ra,rk,hL,hB⟩:=HI.out.1
   obtain rfl:L= []:=List.map_eq_nil_iff.1 hL
   obtain⟨oa,oc,hov⟩:=hB.len
   have c0:=blk_cell hB.blk (k:=0) rfl;have c1:=blk_cell hB.blk (k:=1) rfl;have c2:=blk_cell hB.blk (k:=2) rfl;have c3:=blk_cell hB.blk (k:=3) rfl;have c4:=blk_cell hB.blk (k:=4) rfl;have c5:=blk_cell hB.blk (k:=5) rfl;have c6:=blk_cell hB.blk (k:=6) rfl;have c7:=blk_cell hB.blk (k:=7) rfl;have c10:=blk_cell hB.blk (k:=10) rfl
   rw[hov]at c7
   replace c7:wr.cell? ⟨g,7,none⟩=some (.slice oa 0 oc):=c7
   obtain⟨raa,rac,rfl,_,_⟩:=hB.ra.count z_attr (by omega)
   obtain⟨rka,rkc,rfl,_,_⟩:=hB.rk.count z_node (by omega)
   have hbr:wr.heap[r]? =some (.cells #[.slice none 0 0,.int .i64 0,.string ⟨#[]⟩,.string ⟨#[]⟩,.slice none 0 0,.slice none 0 0,.slice none 0 0] 39 (0,0)):=(Below.block (HV.out.2.trans hB.ext) r (blk_lt HB1.out.2)).trans HB1.out.2
   have d0:=blk_cell hbr (k:=0) rfl;have f0:=blk_free (k:=0) hbr;have d1:=blk_cell hbr (k:=1) rfl;have f1:=blk_free (k:=1) hbr;have d2:=blk_cell hbr (k:=2) rfl;have f2:=blk_free (k:=2) hbr;have d3:=blk_cell hbr (k:=3) rfl;have f3:=blk_free (k:=3) hbr;have d4:=blk_cell hbr (k:=4) rfl;have f4:=blk_free (k:=4) hbr;have d5:=blk_cell hbr (k:=5) rfl;have f5:=blk_free (k:=5) hbr;have d6:=blk_cell hbr (k:=6) rfl;have f6:=blk_free (k:=6) hbr
   obtain⟨w9,hw9⟩:∃X,((((((wr.setCell ⟨r,0,none⟩ (.slice none 0 0)).setCell ⟨r,1,none⟩ (.int .i64 rn.kind)).setCell ⟨r,2,none⟩ (.string (bs rn.name))).setCell ⟨r,3,none⟩ (.string (bs rn.text))).setCell ⟨r,4,none⟩ (.slice raa rn.attrs.length rac)).setCell ⟨r,5,none⟩ (.slice rka rn.kids.length rkc)).setCell ⟨r,6,none⟩ (.slice none 0 0)=X:=⟨_,rfl⟩
   have hb9:w9.heap[r]? =some (.cells #[.slice none 0 0,.int .i64 rn.kind,.string (bs rn.name),.string (bs rn.text),.slice raa rn.attrs.length rac,.slice rka rn.kids.length rkc,.slice none 0 0] 39 (0,0)):=by rw[←hw9];exact blk_setc (blk_setc (blk_setc (blk_setc (blk_setc (blk_setc (blk_setc hbr))))))
   have hk9:∀b,b≠r→w9.heap[b]? =wr.heap[b]? :=fun b hb=>by
    rw[←hw9]
    rw[Below.heap_setCell _ _ _ _ (by simpa using hb),Below.heap_setCell _ _ _ _ (by simpa using hb),Below.heap_setCell _ _ _ _ (by simpa using hb),Below.heap_setCell _ _ _ _ (by simpa using hb),Below.heap_setCell _ _ _ _ (by simpa using hb),Below.heap_setCell _ _ _ _ (by simpa using hb),Below.heap_setCell _ _ _ _ (by simpa using hb)]
   have hX9:Ext w w9:=by
    have h0:Ext w wr:=(HB1.out.1.trans HV.out.2).trans hB.ext
    rw[←hw9]
    exact((((((h0.set (p:=⟨r,0,none⟩) (by simp only;omega) _).set (p:=⟨r,1,none⟩) (by simp only;omega) _).set (p:=⟨r,2,none⟩) (by simp only;omega) _).set (p:=⟨r,3,none⟩) (by simp only;omega) _).set (p:=⟨r,4,none⟩) (by simp only;omega) _).set (p:=⟨r,5,none⟩) (by simp only;omega) _).set (p:=⟨r,6,none⟩) (by simp only;omega) _
   have hrl:=blk_lt HB1.out.2
   have hne:∀b,¬Mut w1.heap.size g ov [] b→b≠r:=fun b hb e=>hb (.inl (.inl (by omega)))
   have HZ:=Lh (And.intro hb9 (And.intro hX9 (And.intro ((hB.ra.kept fun b hb _=>hk9 b (hne b hb)).ok fun b _=>trivial) ((hB.rk.kept fun b hb _=>hk9 b (hne b hb)).ok fun b _=>trivial))))
   clear hbr hb9 hB hov HI HB1 HV hk9 hX9 hne
   go_wp2_with fail
   refine bodyPost_ret (res_node rfl _ _ _ ⟨r,0,none⟩ ?_ (load_doc HZ.out.1)) rfl ?_
   ·
    first | rfl | simp
   clear hw9
   exact⟨_,_,rfl,HZ.out.2.2.1,HZ.out.2.2.2,HZ.out.2.1⟩
def awR:List Rule:= [⟨[[100,98]],[]⟩,⟨[[100,98],[101]],[[64,105,100]]⟩]
def awT:Bytes:= [60,100,98,62,60,101,32,105,100,61,39,50,39,47,62,32,60,101,32,105,100,61,39,49,39,47,62,60,47,100,98,62]
def awEl (c:UInt8):Node:= .mk 1 [101] [] [⟨[105,100],[c]⟩] []
def awA:Node:= .mk 1 [100,98] [] [] [awEl 50,.mk 2 [] [32] [] [],awEl 49]
def awS:Node:= .mk 1 [100,98] [] [] [awEl 49,awEl 50]
def awB:Node:= .mk 1 [100,98] [] [] [.mk 1 [101] [] [] []]
def awK:List TokX:= [⟨1,0,[100,98],[],[]⟩,⟨2,4,[101],[],[⟨[105,100],[50]⟩]⟩,⟨4,15,[],[32],[]⟩,⟨2,16,[101],[],[⟨[105,100],[49]⟩]⟩,⟨3,27,[100,98],[],[]⟩]
theorem aw_bad:badS awT= -1:=by kernel_rfl
theorem aw_tx:txtL [awS]= [60,100,98,62,60,101,32,105,100,61,34,49,34,47,62,60,101,32,105,100,61,34,50,34,47,62,60,47,100,98,62]:=by kernel_rfl
theorem aw_f:foldT st0 awK=some ⟨[],awA,[],6,true⟩:=by kernel_rfl
theorem aw_b:nrP awR awB= .inl (22,1):=by kernel_rfl
theorem aw_a:nrP awR awA= .inr awS:=by kernel_rfl
theorem TagR.gt' {s:Bytes} {p m:Nat} {A:List Attr} {r:Bytes} {e:Nat} (hm:p+blS (s.drop p)=m) (h:s.drop m=62::r) (he:m+1=e):TagR s p A 1 A e:=by subst hm;subst he;exact .gt p A r h
theorem TagR.sl' {s:Bytes} {p m:Nat} {A:List Attr} {r:Bytes} {e:Nat} (hm:p+blS (s.drop p)=m) (h:s.drop m=47::62::r) (he:m+2=e):TagR s p A 2 A e:=by subst hm;subst he;exact .sl p A r h
theorem aw_el (p:Nat) (c:UInt8) (hp:awT.drop p=60::101::32::105::100::61::39::c::39::47::62::awT.drop (p+11)) (hc:plV 39 c=true) (hn1:nameS (awT.drop (p+1))=1) (hn2:nameS (awT.drop (p+3))=2) (hb0:blS (awT.drop (p+2))=1) (hb1:blS (awT.drop (p+5))=0) (hb2:blS (awT.drop (p+6))=0) (hb3:blS (awT.drop (p+9))=0):
  TokR awT p ⟨2,p,[101],[],[⟨[105,100],[c]⟩]⟩ (p+11):=by
 have hd:∀k,awT.drop (p+k)=(awT.drop p).drop k:=fun k=>(List.drop_drop ..).symm
 have d1:awT.drop (p+1)=101::32::105::100::61::39::c::39::47::62::awT.drop (p+11):=by rw[hd,hp];rfl
 have d3:awT.drop (p+3)=105::100::61::39::c::39::47::62::awT.drop (p+11):=by rw[hd,hp];rfl
 have d5:awT.drop (p+5)=61::39::c::39::47::62::awT.drop (p+11):=by rw[hd,hp];rfl
 have d6:awT.drop (p+6)=39::c::39::47::62::awT.drop (p+11):=by rw[hd,hp];rfl
 have d9:awT.drop (p+9)=47::62::awT.drop (p+11):=by rw[hd,hp];rfl
 refine .inr (.inr (.inl ⟨101,_,1,2,[⟨[105,100],[c]⟩],hp,by decide,by decide,by decide,hn1,by decide,?_,by rw[d1];rfl⟩))
 refine .at' (p+2) [] 2 _ (p+11) ⟨[105,100],[c]⟩ (p+9) 105 (100::61::39::c::39::47::62::awT.drop (p+11)) (by rw[hb0];decide) (by rw[hb0];exact d3) (by decide) (by decide) ?_ (fun x hx=>by cases hx) ?_
 ·
  rw[hb0]
  exact⟨2,0,0,39,[c],_,47::62::awT.drop (p+11),hn2,by decide,by rw[d3];rfl,hb1,d5,hb2,.inr rfl,d6,plain_pc fun x hx=>by simp at hx;subst hx;exact hc,rfl⟩
 ·
  exact TagR.sl' (m:=p+9) (by rw[hb3]) d9 (by omega)
theorem aw_ts:TksR awT 0 awK:=by
 refine⟨4,.inr (.inr (.inl ⟨100,_,2,1,[],rfl,by decide,by decide,by decide,by kernel_rfl,by decide,TagR.gt' (m:=3) (r:=awT.drop 4) (by kernel_rfl) (by kernel_rfl) rfl,by kernel_rfl⟩)),15,?_,16,?_,27,?_,32,?_,?_⟩
 ·
  exact aw_el 4 50 (by kernel_rfl) (by decide) (by kernel_rfl) (by kernel_rfl) (by kernel_rfl) (by kernel_rfl) (by kernel_rfl) (by kernel_rfl)
 ·
  exact .inl ⟨[32],[32],awT.drop 17,by kernel_rfl,by decide,plain_pc (by decide),rfl,rfl⟩
 ·
  exact aw_el 16 49 (by kernel_rfl) (by decide) (by kernel_rfl) (by kernel_rfl) (by kernel_rfl) (by kernel_rfl) (by kernel_rfl) (by kernel_rfl)
 ·
  exact .inr (.inl ⟨[100,98],awT.drop 29,by kernel_rfl,⟨2,0,[],by kernel_rfl,by decide,by kernel_rfl,by kernel_rfl,by kernel_rfl,rfl⟩,rfl⟩)
 ·
  rfl
theorem rules_any (w:World):Calls Tryz.prog 13 #[] w fun e w'=>(∃a c,e= .returned (.slice a 2 c)∧Rep w' (fun _=>True) (.slice a 2 c) (rulesD awR))∧Ext w w':=by
 obtain⟨a1,ha1⟩:∃W,w.alloc (.cells #[.string ⟨#[100,98]⟩] 9)=W:=⟨_,rfl⟩
 have ea1:Ext w a1:=by rw[←ha1];exact(Ext.refl _).alloc _
 have sa1:a1.heap.size=w.heap.size+1:=by rw[←ha1];simp
 have ra1:Rep a1 (fun _=>True) (.slice (some ⟨w.heap.size,0,none⟩) 1 1) (strsD [[100,98]]):=by rw[←ha1];exact rep_lit rfl rfl (by decide) (Reps.cons (Rep.string _ _ (bs [100,98]) (by decide)) (Reps.nil _ _))
 obtain⟨a2,ha2⟩:∃W,a1.alloc (.cells #[.string ⟨#[100,98]⟩,.string ⟨#[101]⟩] 9)=W:=⟨_,rfl⟩
 have ea2:Ext a1 a2:=by rw[←ha2];exact(Ext.refl _).alloc _
 have sa2:a2.heap.size=w.heap.size+1+1:=by rw[←ha2];simp;rw[sa1]
 have ra2:Rep a2 (fun _=>True) (.slice (some ⟨a1.heap.size,0,none⟩) 2 2) (strsD [[100,98],[101]]):=by rw[←ha2];exact rep_lit rfl rfl (by decide) (Reps.cons (Rep.string _ _ (bs [100,98]) (by decide)) (Reps.cons (Rep.string _ _ (bs [101]) (by decide)) (Reps.nil _ _)))
 rw[sa1]at ra2
 obtain⟨a3,ha3⟩:∃W,a2.alloc (.cells #[.string ⟨#[64,105,100]⟩] 9)=W:=⟨_,rfl⟩
 have ea3:Ext a2 a3:=by rw[←ha3];exact(Ext.refl _).alloc _
 have sa3:a3.heap.size=w.heap.size+1+1+1:=by rw[←ha3];simp;rw[sa2]
 have ra3:Rep a3 (fun _=>True) (.slice (some ⟨a2.heap.size,0,none⟩) 1 1) (strsD [[64,105,100]]):=by rw[←ha3];exact rep_lit rfl rfl (by decide) (Reps.cons (Rep.string _ _ (bs [64,105,100]) (by decide)) (Reps.nil _ _))
 rw[sa2]at ra3
 obtain⟨a4,ha4⟩:∃W,a3.alloc (.cells #[.slice (some ⟨w.heap.size,0,none⟩) 1 1,.slice none 0 0,.slice (some ⟨w.heap.size+1,0,none⟩) 2 2,.slice (some ⟨w.heap.size+1+1,0,none⟩) 1 1] 53)=W:=⟨_,rfl⟩
 have ea4:Ext a3 a4:=by rw[←ha4];exact(Ext.refl _).alloc _
 have ra4:Rep a4 (fun _=>True) (.slice (some ⟨a3.heap.size,0,none⟩) 2 2) (rulesD awR):=by rw[←ha4];exact rep_lit rfl rfl (by decide) (Reps.cons ((ra1.ext ea2).ext ea3) (Reps.cons (.nil 1) (Reps.cons (ra2.ext ea3) (Reps.cons ra3 (Reps.nil _ _)))))
 rw[sa3]at ra4
 have HZ:=Lh (And.intro ra4 (((ea1.trans ea2).trans ea3).trans ea4))
 clear ra1 ra2 ra3 ra4 ea1 ea2 ea3 ea4
 go_enter Tryz.func13,Tryz.ntmps13
 go_wp2_with fail
 go_ret
 exact⟨⟨_,_,rfl,HZ.out.1⟩,HZ.out.2⟩
theorem nodeX_any (n:Node) (p:Nat→Prop) (va vk:Value) (w:World) (hcnt:cntL [n]≤1048576) (hL:(txtL [n]).length≤140737488355328) (hn:n.name.length≤65536) (ht:n.text.length≤65536) (hva:Rep w p va (attrsD n.attrs)) (hvk:Rep w p vk (nodesD n.kids)):
  Calls Tryz.prog 14 #[.agg #[.int .i64 n.kind,.string (bs n.name),.string (bs n.text),va,vk]] w fun e w'=>e= .returned (.string (bs (txtL [n])))∧Ext w w':=by
 obtain⟨xa,xac,rfl,_,_⟩:=hva.count z_attr (by omega)
 obtain⟨xk,xkc,rfl,_,_⟩:=hvk.count z_node (by omega)
 obtain⟨w1,hw1⟩:∃X,w.alloc (.cells #[.int .i64 n.kind,.string (bs n.name),.string (bs n.text),.slice xa n.attrs.length xac,.slice xk n.kids.length xkc] 26)=X:=⟨_,rfl⟩
 obtain⟨w2,hw2⟩:∃X,w1.alloc (.cells #[.int .i64 n.kind,.string (bs n.name),.string (bs n.text),.slice xa n.attrs.length xac,.slice xk n.kids.length xkc] 26)=X:=⟨_,rfl⟩
 have e1:Ext w w1:=by rw[←hw1];exact(Ext.refl _).alloc _
 have e2:Ext w1 w2:=by rw[←hw2];exact(Ext.refl _).alloc _
 have hb1:w1.heap[w.heap.size]? =some (.cells #[.int .i64 n.kind,.string (bs n.name),.string (bs n.text),.slice xa n.attrs.length xac,.slice xk n.kids.length xkc] 26 (0,0)):=by rw[←hw1];exact Array.getElem?_push_size ..
 have y0:=blk_cell hb1 (k:=0) rfl;have y1:=blk_cell hb1 (k:=1) rfl;have y2:=blk_cell hb1 (k:=2) rfl;have y3:=blk_cell hb1 (k:=3) rfl;have y4:=blk_cell hb1 (k:=4) rfl
 have r2:Rep w2 (fun _=>True) (.slice (some ⟨w1.heap.size,0,none⟩) 1 1) (nodesD [n]):=by
  rw[←hw2]
  exact rep_lit rfl (by simp[z_node]) (by decide) (by
   rw[List.flatMap_singleton,nodeC_eq]
   exact Reps.cons (Rep.int _ _ _ _) (Reps.cons (Rep.string _ _ _ (by rw[bs_size];omega)) (Reps.cons (Rep.string _ _ _ (by rw[bs_size];omega)) (Reps.cons ((hva.ext e1).ok fun _ _=>trivial) (Reps.cons (e:=nodesD n.kids) ((hvk.ext e1).ok fun _ _=>trivial) (Reps.nil _ _))))))
 have HC:=Lh (nodesX_any [n] _ _ w2 hcnt hL r2)
 obtain⟨T,hT⟩:∃T,txtL [n]=T:=⟨_,rfl⟩
 rw[hT]at HC⊢
 have HE:=Lh (e1.trans e2)
 clear r2 hva hvk hb1 e1 e2 hT hcnt hL
 go_enter Tryz.func14,Tryz.ntmps14
 go_wp2_with fail
 refine HC.out.mono ?_
 rintro e w3 ⟨rfl,h3⟩
 go_wp2_with fail
 go_ret
 exact⟨rfl,HE.out.trans h3⟩
end Go.Proofs.YtcfibjiikhnfhaaGreatDoor
