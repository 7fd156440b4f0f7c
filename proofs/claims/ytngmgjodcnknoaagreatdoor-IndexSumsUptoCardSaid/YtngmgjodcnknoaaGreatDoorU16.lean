/-
 Laws drawn from elder texts. Helper lemmas;no statement of the seat is proved here.
-/
import Derived.Test.YtngmgjodcnknoaaGreatDoorU15
namespace Go.Proofs.YtngmgjodcnknoaaGreatDoor
open Go.RowKit
set_option maxHeartbeats 32000000
set_option maxRecDepth 100000
set_option linter.unusedVariables false
set_option linter.unusedSimpArgs false
mutual
theorem norm_wf (l:List Rule):∀(a:Node) (path:List Bytes) (first:Int),a.kind=1→(normN l a path first).2.1=0→wfN l (normN l a path first).1 path∧(normN l a path first).1.name=a.name
 | .mk k nm tx la ks,path,first,hk,h=>by
  rw[normN]at h⊢
  by_cases hf:frontS l path=true
  ·
   rw[if_pos hf]at h⊢
   refine⟨?_,rfl⟩
   rw[wfN_eq]
   exact⟨rfl,fun e=>by rw[hf]at e;cases e⟩
  ·
   rw[if_neg hf]at h⊢
   exact normL_wf l ks nm (sortA [] la) path first [] [] (first+1) ⟨List.Pairwise.nil,fun k hk=>(by cases hk),rfl⟩ h
theorem normL_wf (l:List Rule):∀(ks:List Node) (nm:Bytes) (la:List Attr) (path:List Bytes) (first:Int) (steps:List Step) (out:List Node) (at':Int),NInv l path steps out→
  (normL l ks nm la path first steps out at').2.1=0→wfN l (normL l ks nm la path first steps out at').1 path∧(normL l ks nm la path first steps out at').1.name=nm
 | [],nm,la,path,first,steps,out,at',hi,h=>by
  rw[normL]
  refine⟨?_,rfl⟩
  obtain⟨h1,h2,h3⟩:=hi
  rw[wfN_eq]
  refine⟨rfl,fun _=> ?_⟩
  have h4:=stepsS_all l path out fun k hk=>(h2 k hk).1
  simp only[Node.kids]
  rw[h4,←h3]
  exact⟨by rw[h3,List.length_map],h1,wfL_of l path out fun k hk=>(h2 k hk).2⟩
 | k::r,nm,la,path,first,steps,out,at',hi,h=>by
  rw[normL]at h⊢
  by_cases c1:k.kind=2∧trimB k.text≠ []
  ·
   rw[if_pos c1]at h;simp at h
  ·
   rw[if_neg c1]at h⊢
   by_cases c2:k.kind≠1
   ·
    rw[if_pos c2]at h⊢;exact normL_wf l r nm la path first steps out at' hi h
   ·
    rw[if_neg c2]at h⊢
    by_cases c3:findS (path++ [k.name]) l 0< 0
    ·
     rw[if_pos c3]at h;simp at h
    ·
     rw[if_neg c3]at h⊢
     by_cases c4:(normN l k (path++ [k.name]) at').2.1≠0
     ·
      rw[if_pos c4]at h;exact absurd h c4
     ·
      rw[if_neg c4]at h⊢
      have hk:=norm_wf l k (path++ [k.name]) at' (by simpa using c2) (by simpa using c4)
      cases hkey:keyS (normN l k (path++ [k.name]) at').1 (l.getD (findS (path++ [k.name]) l 0).toNat noRule).keys with
      | none=>simp only[hkey]at h;simp at h
      | some key=>
       simp only[hkey]at h⊢
       by_cases c5:(steps.any fun s=>stepB s ⟨k.name,key⟩)=true
       ·
        rw[if_pos c5]at h;simp at h
       ·
        rw[if_neg c5]at h⊢
        refine normL_wf l r nm la path first _ _ _ ?_ h
        obtain⟨h1,h2,h3⟩:=hi
        have hcp:=countP_pos ⟨k.name,key⟩ steps h1
        have hnm:(⟨k.name,key⟩:Step)∉steps:=by
         intro hm
         exact c5 (List.any_eq_true.2 ⟨_,hm,(stepB_iff _ _).2 rfl⟩)
        refine⟨?_,?_,?_⟩
        ·
         rw[hcp];exact stepPos_new _ _ h1 hnm
        ·
         intro k' hk'
         rcases (mem_insAt _ _ _ _).1 hk' with e | hk'
         ·
          rw[e,hk.2];exact⟨c3,hk.1⟩
         ·
          exact h2 k' hk'
        ·
         rw[map_insAt,←h3,hk.2,hkey];rfl
end
theorem heldsOf_mem:∀(ds:List Node) (i:Nat) (h:Held),h∈heldsOf ds i→h.n∈ds∧(i:Int)+1≤h.v∧h.v≤((i+ds.length:Nat):Int)
 | [],i,h,hm=>by cases hm
 | d::r,i,h,hm=>by
  rw[heldsOf]at hm
  rcases List.mem_cons.1 hm with e | hm
  ·
   rw[e];exact⟨List.mem_cons_self,by simp,by simp only[List.length_cons];omega⟩
  ·
   obtain⟨h1,h2,h3⟩:=heldsOf_mem r (i+1) h hm
   exact⟨List.mem_cons_of_mem _ h1,by omega,by simp only[List.length_cons];omega⟩
theorem nszL_le:∀(ds:List Node) (d:Node),d∈ds→nsz d≤nszL ds
 | [],d,h=>by cases h
 | a::r,d,h=>by
  rw[nszL]
  rcases List.mem_cons.1 h with e | h
  ·
   rw[e];omega
  ·
   have:=nszL_le r d h;omega
def verB (n:Int):Bool:=decide (1≤n∧n≤200)
def mayI:List Span→Int→Bool
 | [],_=>true
 | p::r,ahead=>if verB p.a=true then(if verB p.b=true then(if p.b< p.a then false else if p.a≤ahead+1∧0≤ahead then false else mayI r p.b)else false)else false
def Sr (v:Value) (a w:World):Prop:=a.heap.size≤w.heap.size∧∀b,some b≠v.ownBlock→b< a.heap.size→w.heap[b]? =a.heap[b]?
theorem Sr.begin (v:Value) (w:World):Sr v w w.drew:=⟨((Ext.refl w).drew).size,fun b _ hb=>Below.block ((Ext.refl w).drew) b hb⟩
theorem Sr.ext {v:Value} {a w w':World} (h:Sr v a w) (k:Ext w w'):Sr v a w':=⟨Nat.le_trans h.1 k.size,fun b h1 h2=>(Below.block k b (Nat.lt_of_lt_of_le h2 h.1)).trans (h.2 b h1 h2)⟩
theorem Sr.cell {v:Value} {a w:World} (h:Sr v a w) {b o:Nat} {u:Value} (hb:b< a.heap.size∧some b≠v.ownBlock) (hc:a.cell? ⟨b,o,none⟩=some u):w.cell? ⟨b,o,none⟩=some u:=(World.cell?_of_block (h.2 b hb.2 hb.1)).trans hc
theorem Sr.free {v:Value} {a w:World} (h:Sr v a w) {b o:Nat} {u:Bool} (hb:b< a.heap.size∧some b≠v.ownBlock) (hc:a.frozen? ⟨b,o,none⟩=u):w.frozen? ⟨b,o,none⟩=u:=(World.frozen?_of_block (h.2 b hb.2 hb.1)).trans hc
theorem Sr.grown {v:Value} {a w w':World} (h:Sr v a w) (hg:w.grownBy w' v.ownBlock):Sr v a w':=⟨Nat.le_trans h.1 hg.size,fun b h1 h2=>(hg.block b (Nat.lt_of_lt_of_le h2 h.1) h1).trans (h.2 b h1 h2)⟩
theorem Own.keep {w w':World} {p:Nat→Prop} {base z n:Nat} {e:TypeId} {v:Value} {es:List DV} {row:Option Nat} (h:Own w p base e z v n es) (hg:w.grownBy w' row) (hv:v.ownBlock=none∨v.ownBlock≠row) (hp:∀g,row=some g→¬p g):Own w' p base e z v n es:=by
 obtain⟨us,h1,h2⟩:=h
 exact⟨us,h1.kept hg hv,(h2.kept fun b hb hlt=>hg.block b hlt (fun e=>hp b e.symm hb.1)).ok fun b hb=>⟨hb.1,hb.2.1,Nat.lt_of_lt_of_le hb.2.2 hg.size⟩⟩
theorem own_lt {w:World} {base z n:Nat} {e:TypeId} {v:Value} {us:List Value} (h:w.ownsRow base e z v n us) {g:Nat} (hg:some g=v.ownBlock):base≤g∧g< w.heap.size:=h.lt g hg.symm
def Mut (dv:Value) (vs:List Value) (b:Nat):Prop:=some b=dv.ownBlock∨∃v∈vs,some b=v.ownBlock
structure F2 {α:Type} (w:World) (p:Nat→Prop) (base:Nat) (eo e:TypeId) (z:Nat) (f:α→List DV) (dv:Value) (vs:List Value) (L:List (List α)):Prop where
 d:w.ownsRow base eo 1 dv vs.length vs
 len:vs.length=L.length
 own:∀(i:Nat) (v:Value) (l:List α),vs[i]? =some v→L[i]? =some l→Own w p base e z v l.length (l.flatMap f)
 apart:∀(i j:Nat) (u v:Value),i≠j→vs[i]? =some u→vs[j]? =some v→u.ownBlock=none∨u.ownBlock≠v.ownBlock
 out:∀v∈vs,v.ownBlock=none∨v.ownBlock≠dv.ownBlock
section
variable {α:Type} {w w':World} {p:Nat→Prop} {base:Nat} {eo e:TypeId} {z:Nat} {f:α→List DV} {dv:Value} {vs:List Value} {L:List (List α)}
theorem F2.nil (w:World) (p:Nat→Prop) (base:Nat) (eo e:TypeId) (z:Nat) (f:α→List DV):F2 w p base eo e z f (.slice none 0 0) [] []:=
 ⟨World.ownsRow_nil _ _ _ _,rfl,fun i v l h=>by simp at h,fun i j u v _ h=>by simp at h,fun v h=>by cases h⟩
theorem F2.ownAt (h:F2 w p base eo e z f dv vs L) {v:Value} (hv:v∈vs):∃l n us,Own w p base e z v n l∧w.ownsRow base e z v n us:=by
 obtain⟨i,hi⟩:=List.getElem?_of_mem hv
 have hlt:i< vs.length:=(List.getElem?_eq_some_iff.1 hi).1
 have hl2:i< L.length:=by rw[←h.len];exact hlt
 have h0:=h.own i v L[i] hi (List.getElem?_eq_getElem hl2)
 obtain⟨us,h1,_⟩:=h0.rows
 exact⟨_,_,us,h0,h1⟩
theorem F2.mut_lt (h:F2 w p base eo e z f dv vs L) {b:Nat} (hb:Mut dv vs b):base≤b∧b< w.heap.size:=by
 rcases hb with hb | ⟨v,hv,hb⟩
 ·
  exact own_lt h.d hb
 ·
  obtain⟨l,n,us,_,h1⟩:=h.ownAt hv
  exact own_lt h1 hb
theorem F2.kept {row:Option Nat} (h:F2 w p base eo e z f dv vs L) (hg:w.grownBy w' row) (hr:∀g,row=some g→¬Mut dv vs g∧¬p g):F2 w' p base eo e z f dv vs L:=by
 refine⟨h.d.kept hg ?_,h.len,fun i v l h1 h2=>(h.own i v l h1 h2).keep hg ?_ fun g e=>(hr g e).2,h.apart,h.out⟩
 ·
  cases hd:dv.ownBlock with
  | none=>exact .inl rfl
  | some g=>right;intro e;exact(hr g e.symm).1 (.inl hd.symm)
 ·
  cases hd:v.ownBlock with
  | none=>exact .inl rfl
  | some g=>right;intro e;exact(hr g e.symm).1 (.inr ⟨v,List.mem_of_getElem? h1,hd.symm⟩)
theorem ext_grown {a b:World} (h:Ext a b):a.grownBy b none:=⟨h.os,h.tape,h.output,h.size,fun i hi _=>Below.block h i hi⟩
theorem F2.ext (h:F2 w p base eo e z f dv vs L) (hB:Ext w w'):F2 w' p base eo e z f dv vs L:=h.kept (ext_grown hB) fun g e=>by cases e
theorem F2.snoc {w1:World} (h:F2 w p base eo e z f dv vs L) (hB:Ext w w1) (hp:∀b,p b→b< base) {dv2:Value} (hown:w'.ownsRow base eo 1 dv2 (vs.length+1) (vs++ [.slice none 0 0])) (hg:w1.grownBy w' dv.ownBlock) (hat:dv2.ownBlock=dv.ownBlock∨dv2.ownBlock=some w1.heap.size):
  F2 w' p base eo e z f dv2 (vs++ [.slice none 0 0]) (L++ [[]])∧∀b,Mut dv2 (vs++ [.slice none 0 0]) b→Mut dv vs b∨w1.heap.size≤b:=by
 have h1:=h.ext hB
 refine⟨⟨by rw[List.length_append];exact hown,by rw[List.length_append,List.length_append,h.len];rfl,fun i v l hv hl=> ?_,fun i j u v hij hu hv=> ?_,fun v hv=> ?_⟩,fun b hb=> ?_⟩
 ·
  by_cases hi:i< vs.length
  ·
   rw[List.getElem?_append_left hi]at hv
   rw[List.getElem?_append_left (by rw[←h.len];exact hi)]at hl
   refine(h1.own i v l hv hl).keep hg (h.out v (List.mem_of_getElem? hv)) fun g e hpg=> ?_
   have:=(own_lt h.d e.symm).1
   have:=hp g hpg;omega
  ·
   rw[List.getElem?_append_right kA]at hv
   rw[List.getElem?_append_right (by rw[←h.len];omega),←h.len]at hl
   match hk:i - vs.length with
   | 0=>rw[hk]at hv hl;simp at hv hl;subst hv;subst hl;exact Own.nil _ _ _ _ _
   | k+1=>rw[hk]at hv;simp at hv
 ·
  by_cases hi:i< vs.length
  ·
   rw[List.getElem?_append_left hi]at hu
   by_cases hj:j< vs.length
   ·
    rw[List.getElem?_append_left hj]at hv
    exact h.apart i j u v hij hu hv
   ·
    rw[List.getElem?_append_right kA]at hv
    match hk:j - vs.length with
    | 0=>
     rw[hk]at hv;simp at hv;subst hv
     cases hub:u.ownBlock with
     | none=>exact .inl rfl
     | some g=>right;intro e;cases e
    | k+1=>rw[hk]at hv;simp at hv
  ·
   rw[List.getElem?_append_right kA]at hu
   match hk:i - vs.length with
   | 0=>rw[hk]at hu;simp at hu;subst hu;exact .inl rfl
   | k+1=>rw[hk]at hu;simp at hu
 ·
  rcases List.mem_append.1 hv with hv | hv
  ·
   rcases hat with e | e
   ·
    rw[e];exact h.out v hv
   ·
    cases hvb:v.ownBlock with
    | none=>exact .inl rfl
    | some g=>
     right;rw[e];intro e2
     have:=(h1.mut_lt (b:=g) (.inr ⟨v,hv,hvb.symm⟩)).2
     have:=Option.some.inj e2;omega
  ·
   simp at hv;subst hv;exact .inl rfl
 ·
  rcases hb with hb | ⟨v,hv,hb⟩
  ·
   rcases hat with e | e
   ·
    rw[e]at hb;exact .inl (.inl hb)
   ·
    rw[e]at hb;right;have:=Option.some.inj hb;omega
  ·
   rcases List.mem_append.1 hv with hv | hv
   ·
    exact .inl (.inr ⟨v,hv,hb⟩)
   ·
    simp at hv;subst hv;cases hb
theorem F2.ins {w1:World} (h:F2 w p base eo e z f dv vs L) (hB:Ext w w1) (hsz:base≤w.heap.size) (k:Nat) (hk:k≤vs.length) {dv2:Value} (hown:w1.ownsRow w.heap.size eo 1 dv2 (vs.length+1) (insAt vs k (.slice none 0 0))):
  F2 w1 p base eo e z f dv2 (insAt vs k (.slice none 0 0)) (insAt L k [])∧∀b,Mut dv2 (insAt vs k (.slice none 0 0)) b→Mut dv vs b∨w.heap.size≤b:=by
 have h1:=h.ext hB
 have hge:∀{α:Type} (l:List α) (x:α) (i:Nat),k≤l.length→(insAt l k x)[i]? =if i< k then l[i]? else if i=k then some x else l[i - 1]? :=fun l x i hkl=>by
  unfold insAt
  by_cases hi:i< k
  ·
   rw[if_pos hi,List.getElem?_append_left (by rw[List.length_take];omega),List.getElem?_take,if_pos hi]
  ·
   rw[if_neg hi,List.getElem?_append_right (by rw[List.length_take];omega),List.length_take,Nat.min_eq_left hkl]
   by_cases hik:i=k
   ·
    subst hik;simp
   ·
    rw[if_neg hik]
    obtain⟨m,hm⟩:∃m,i - k=m+1:=⟨i - k - 1,by omega⟩
    rw[hm,List.getElem?_cons_succ,List.getElem?_drop]
    congr 1;omega
 have hkL:k≤L.length:=by rw[←h.len];exact hk
 have hmem:∀v∈insAt vs k (Value.slice none 0 0),v= .slice none 0 0∨v∈vs:=fun v hv=>by
  unfold insAt at hv
  rw[List.mem_append,List.mem_cons]at hv
  rcases hv with hv | hv | hv
  ·
   exact .inr (List.mem_of_mem_take hv)
  ·
   exact .inl hv
  ·
   exact .inr (List.mem_of_mem_drop hv)
 refine⟨⟨by rw[insAt_len];exact rows_mono hown hsz,by rw[insAt_len,insAt_len,h.len],fun i v l hv hl=> ?_,fun i j u v hij hu hv=> ?_,fun v hv=> ?_⟩,fun b hb=> ?_⟩
 ·
  rw[hge _ _ _ hk]at hv
  rw[hge _ _ _ hkL]at hl
  by_cases hi:i< k
  ·
   rw[if_pos hi]at hv hl;exact h1.own i v l hv hl
  ·
   rw[if_neg hi]at hv hl
   by_cases hik:i=k
   ·
    rw[if_pos hik]at hv hl;cases hv;cases hl;exact Own.nil _ _ _ _ _
   ·
    rw[if_neg hik]at hv hl;exact h1.own _ v l hv hl
 ·
  rw[hge _ _ _ hk]at hu hv
  by_cases hi:i=k
  ·
   subst hi;rw[if_neg kA,if_pos rfl]at hu;cases hu;exact .inl rfl
  ·
   by_cases hj:j=k
   ·
    subst hj;rw[if_neg kA,if_pos rfl]at hv;cases hv
    cases hub:u.ownBlock with
    | none=>exact .inl rfl
    | some g=>right;intro e;cases e
   ·
    have hu':vs[if i< k then i else i - 1]? =some u:=by
     by_cases h:i< k
     ·
      rw[if_pos h]at hu⊢;exact hu
     ·
      rw[if_neg h,if_neg hi]at hu;rw[if_neg h];exact hu
    have hv':vs[if j< k then j else j - 1]? =some v:=by
     by_cases h:j< k
     ·
      rw[if_pos h]at hv⊢;exact hv
     ·
      rw[if_neg h,if_neg hj]at hv;rw[if_neg h];exact hv
    refine h.apart _ _ u v ?_ hu' hv'
    split<;> split<;> omega
 ·
  rcases hmem v hv with e | hv
  ·
   subst e;exact .inl rfl
  ·
   cases hvb:v.ownBlock with
   | none=>exact .inl rfl
   | some g=>
    right;intro e2
    have a:=(h.mut_lt (b:=g) (.inr ⟨v,hv,hvb.symm⟩)).2
    have b:=(own_lt hown (g:=g) e2).1
    omega
 ·
  rcases hb with hb | ⟨v,hv,hb⟩
  ·
   right;exact(own_lt hown hb).1
  ·
   rcases hmem v hv with e | hv
   ·
    subst e;cases hb
   ·
    exact .inl (.inr ⟨v,hv,hb⟩)
theorem F2.push {w1 w2:World} (h:F2 w p base eo e z f dv vs L) (hB:Ext w w1) (hsz:base≤w.heap.size) (hp:∀b,p b→b< base) (i:Nat) (v:Value) (l:List α) (hv:vs[i]? =some v) (hl:L[i]? =some l) (x:α) {us ns:List Value} {v2:Value}
  (hus:Reps w (fun b=>p b∧some b≠v.ownBlock∧b< w.heap.size) us (l.flatMap f)) (hns:Reps w1 (fun b=>p b) ns (f x))
  (hown:w2.ownsRow base e z v2 (l.length+1) (us++ns)) (hg:w1.grownBy w2 v.ownBlock) (hat:v2.ownBlock=v.ownBlock∨v2.ownBlock=some w1.heap.size)
  {gd cap:Nat} (hd:dv= .slice (some ⟨gd,0,none⟩) vs.length cap):
  F2 (w2.setCell ⟨gd,i,none⟩ v2) p base eo e z f dv (vs.set i v2) (L.set i (l++ [x]))∧(∀b,Mut dv (vs.set i v2) b→Mut dv vs b∨w1.heap.size≤b):=by
 have h1:=h.ext hB
 have hdb:dv.ownBlock=some gd:=by rw[hd];rfl
 have hvm:v∈vs:=List.mem_of_getElem? hv
 have hil:i< vs.length:=(List.getElem?_eq_some_iff.1 hv).1
 have hpv:∀g,v.ownBlock=some g→¬p g:=fun g e hpg=>by
  have:=(h.mut_lt (b:=g) (.inr ⟨v,hvm,e.symm⟩)).1
  have:=hp g hpg;omega
 have hd2:w2.ownsRow base eo 1 dv vs.length vs:=h1.d.kept hg (by
  cases hvb:v.ownBlock with
  | none=>right;rw[hdb];intro e;cases e
  | some g=>
   right;intro e
   rcases h.out v hvm with e2 | e2
   ·
    rw[hvb]at e2;cases e2
   ·
    exact e2 (by rw[e,hvb]))
 have hpd:¬p gd:=fun hpg=>by
  have:=(own_lt h.d hdb.symm).1
  have:=hp gd hpg;omega
 obtain⟨hst,hgs⟩:=(show w2.ownsRow base eo 1 (.slice (some ⟨gd,0,none⟩) vs.length cap) vs.length vs by rw[←hd];exact hd2).stored i v2
 have hv2d:v2.ownBlock=none∨v2.ownBlock≠dv.ownBlock:=by
  rcases hat with e | e
  ·
   rw[e];exact h.out v hvm
  ·
   right;rw[e,hdb];intro e2
   have:=(own_lt h1.d hdb.symm).2
   have:=Option.some.inj e2;omega
 have hv2o:∀(j:Nat) (u:Value),j≠i→vs[j]? =some u→(u.ownBlock=none∨u.ownBlock≠v2.ownBlock):=fun j u hj hu=>by
  rcases hat with e | e
  ·
   rw[e];exact h.apart j i u v hj hu hv
  ·
   cases hub:u.ownBlock with
   | none=>exact .inl rfl
   | some g=>
    right;rw[e];intro e2
    have:=(h1.mut_lt (b:=g) (.inr ⟨u,List.mem_of_getElem? hu,hub.symm⟩)).2
    have:=Option.some.inj e2;omega
 refine⟨⟨?_,by rw[List.length_set,List.length_set];exact h.len,fun j u l' hu hl'=> ?_,fun j k u y hjk hu hy=> ?_,fun u hu=> ?_⟩,fun b hb=> ?_⟩
 ·
  rw[List.length_set,hd];exact hst
 ·
  rw[List.getElem?_set]at hu hl'
  by_cases hj:i=j
  ·
   subst hj
   rw[if_pos rfl,if_pos hil]at hu
   rw[if_pos rfl,if_pos (by rw[←h.len];exact hil)]at hl'
   cases hu;cases hl'
   rw[List.length_append,List.flatMap_append]
   have hpush:Own w2 p base e z v2 (l.length+1) (l.flatMap f++f x):=Own.push (w:=w1) ((hus.ext hB).ok fun b hb=>⟨hb.1,hb.2.1,Nat.lt_of_lt_of_le hb.2.2 hB.size⟩) (hns.ok fun b hb=>⟨hb,fun e=>hpv b e.symm hb,by have:=hp b hb;have:=hB.size;omega⟩) hown hg hat
   have hk:=hpush.keep hgs (by rw[←hdb];exact hv2d) fun g e hpg=>by cases e;exact hpd hpg
   simpa using hk
  ·
   rw[if_neg hj]at hu hl'
   refine((h1.own j u l' hu hl').keep hg (h.apart j i u v (fun e=>hj e.symm) hu hv) hpv).keep hgs (by rw[←hdb];exact h.out u (List.mem_of_getElem? hu)) fun g e hpg=> ?_
   cases e;exact hpd hpg
 ·
  rw[List.getElem?_set]at hu hy
  by_cases hj:i=j
  ·
   subst hj
   rw[if_pos rfl,if_pos hil]at hu
   cases hu
   rw[if_neg hjk]at hy
   rcases hv2o k y (fun e=>hjk e.symm) hy with e | e
   ·
    cases hub:v2.ownBlock with
    | none=>exact .inl rfl
    | some g=>right;rw[e];intro e2;cases e2
   ·
    exact .inr fun e2=>e e2.symm
  ·
   rw[if_neg hj]at hu
   by_cases hk:i=k
   ·
    subst hk
    rw[if_pos rfl,if_pos hil]at hy
    cases hy
    exact hv2o j u (fun e=>hj e.symm) hu
   ·
    rw[if_neg hk]at hy
    exact h.apart j k u y hjk hu hy
 ·
  rcases List.mem_or_eq_of_mem_set hu with hu | e
  ·
   exact h.out u hu
  ·
   subst e;exact hv2d
 ·
  rcases hb with hb | ⟨u,hu,hb⟩
  ·
   exact .inl (.inl hb)
  ·
   rcases List.mem_or_eq_of_mem_set hu with hu | e
   ·
    exact .inl (.inr ⟨u,hu,hb⟩)
   ·
    subst e
    rcases hat with e | e
    ·
     exact .inl (.inr ⟨v,hvm,by rw[←e];exact hb⟩)
    ·
     right;rw[e]at hb;have:=Option.some.inj hb;omega
theorem F2.frame {w1 w2:World} (h:F2 w p base eo e z f dv vs L) {v v2:Value} (hvm:v∈vs) (hg:w1.grownBy w2 v.ownBlock) {gd cap:Nat} {i:Nat} (hd:dv= .slice (some ⟨gd,0,none⟩) vs.length cap):
  ∀b,¬Mut dv vs b→b< w1.heap.size→(w2.setCell ⟨gd,i,none⟩ v2).heap[b]? =w1.heap[b]? :=fun b hb hlt=>by
 rw[Below.heap_setCell _ _ _ _ (by intro e;exact hb (.inl (by rw[hd];exact congrArg some e)))]
 exact hg.block b hlt fun e=>hb (.inr ⟨v,hvm,e⟩)
end
theorem part_at {w:World} {p:Nat→Prop} {a:Option Addr} {len cap:Nat} {l:List Part} (h:Rep w p (.slice a len cap) (partsD l)) (i:Nat) (hi:i< l.length):
  ∃b off x y z,a=some ⟨b,off,none⟩∧b< w.heap.size∧p b∧w.cell? ⟨b,off+i*3,none⟩=some x∧w.cell? ⟨b,off+i*3+1,none⟩=some y∧w.cell? ⟨b,off+i*3+2,none⟩=some z∧
   Rep w p x (spansD l[i].vers)∧Rep w p y (attrsD l[i].attrs)∧Rep w p z (nodesD l[i].kids):=by
 obtain⟨b,off,ha,hb,hp,hc⟩:=elem_at z_part h kA i hi
 unfold partC at hc
 obtain⟨u0,hu0,hr0⟩:=hc 0 _ rfl
 obtain⟨u1,hu1,hr1⟩:=hc 1 _ rfl
 obtain⟨u2,hu2,hr2⟩:=hc 2 _ rfl
 exact⟨b,off,u0,u1,u2,ha,hb,hp,hu0,hu1,hu2,hr0,hr1,hr2⟩
theorem infoPart:(Tryz.prog.info? 157).map (fun i=>(i.zero,i.size,i.bytes))=some (some (.agg #[.slice none 0 0,.slice none 0 0,.slice none 0 0]),3,72):=by kernel_rfl
theorem infoInts:(Tryz.prog.info? 91).map (fun i=>(i.zero,i.size,i.bytes))=some (some (.slice none 0 0),1,24):=by kernel_rfl
theorem s1Ints:∀W,(sizeOf 91).run Tryz.prog W= .ok 1 W:=fun W=>by go_simp
theorem Own.frame {w w':World} {p:Nat→Prop} {base z n:Nat} {e:TypeId} {v:Value} {es:List DV} (h:Own w p base e z v n es) (M:Nat→Prop) (hs:w.heap.size≤w'.heap.size) (hf:∀b,¬M b→b< w.heap.size→w'.heap[b]? =w.heap[b]?)
  (hv:∀g,some g=v.ownBlock→¬M g) (hp:∀b,p b→¬M b):Own w' p base e z v n es:=by
 obtain⟨us,h1,h2⟩:=h
 refine⟨us,⟨h1.1,?_⟩,(h2.kept fun b hb hlt=>hf b (hp b hb.1) hlt).ok fun b hb=>⟨hb.1,hb.2.1,Nat.lt_of_lt_of_le hb.2.2 hs⟩⟩
 rcases h1.2 with hn | ⟨g,cap,cur,rfl,hb,hg,hr⟩
 ·
  exact .inl hn
 ·
  refine .inr ⟨g,cap,cur,rfl,hb,?_,hr⟩
  rw[hf g (hv g rfl) (blk_lt hg)];exact hg
theorem Reps.set {w:World} {p:Nat→Prop} {us:List Value} {es:List DV} (h:Reps w p us es) (j:Nat) {u:Value} {d:DV} (hu:Rep w p u d):Reps w p (us.set j u) (es.set j d):=
 ⟨by rw[List.length_set,List.length_set,h.1],fun k u' d' h1 h2=>by
  rw[List.getElem?_set]at h1 h2
  by_cases hk:j=k
  ·
   subst hk
   rw[if_pos rfl]at h1 h2
   split at h1
   ·
    split at h2
    ·
     cases h1;cases h2;exact hu
    ·
     cases h2
   ·
    cases h1
  ·
   rw[if_neg hk]at h1 h2;exact h.2 k u' d' h1 h2⟩
theorem own_some {w:World} {base z n:Nat} {e:TypeId} {v:Value} {us:List Value} (h:w.ownsRow base e z v n us) (hn:0< n):∃g c,v= .slice (some ⟨g,0,none⟩) n c∧g< w.heap.size∧base≤g:=by
 rcases h.2 with⟨_,hz⟩ | ⟨g,cap,cur,rfl,hb,hg,_⟩
 ·
  omega
 ·
  exact⟨g,cap,rfl,blk_lt hg,hb⟩
theorem setV_take:∀(k:Nat) (a:List Part) (s:List (List Int)) (h:k< a.length) (h':k< s.length),setV (a.take (k+1)) (s.take (k+1))=setV (a.take k) (s.take k)++ [⟨spansOf (flOf s[k]),a[k].attrs,a[k].kids⟩]
 | 0,q::a,x::s,_,_=>rfl
 | k+1,q::a,x::s,h,h'=>by
  have e:=setV_take k a s kJ (by simpa using h')
  rw[List.take_succ_cons,List.take_succ_cons,setV,e,List.take_succ_cons,List.take_succ_cons,setV];rfl
theorem setV_len:∀(a:List Part) (s:List (List Int)),a.length=s.length→(setV a s).length=a.length
 | [],[],_=>rfl
 | q::a,x::s,h=>by rw[setV,List.length_cons,List.length_cons,setV_len a s kJ]
theorem setV_step (k:Nat) (a:List Part) (s:List (List Int)) (h:k< a.length) (h':k< s.length) (hl:a.length=s.length):
  ((setV (a.take k) (s.take k)++a.drop k).flatMap partC).set (k*3) (spansD (spansOf (flOf s[k])))=(setV (a.take (k+1)) (s.take (k+1))++a.drop (k+1)).flatMap partC:=by
 have h1:((setV (a.take k) (s.take k)).flatMap partC).length=k*3:=by rw[flat_len _ 3 z_part,setV_len _ _ (by rw[List.length_take,List.length_take];omega),List.length_take];congr 1;omega
 rw[setV_take k a s h h',drop_one a k h,List.flatMap_append,List.flatMap_append,List.flatMap_append,List.flatMap_cons,List.set_append_right _ _ kA,h1,Nat.sub_self]
 simp[partC]
theorem Own.okay {w:World} {p q:Nat→Prop} {base z n:Nat} {e:TypeId} {v:Value} {es:List DV} (h:Own w p base e z v n es) (hpq:∀b,p b→q b):Own w q base e z v n es:=by
 obtain⟨us,h1,h2⟩:=h
 exact⟨us,h1,h2.ok fun b hb=>⟨hpq b hb.1,hb.2⟩⟩
theorem modify_set {α:Type} (f:α→α):∀(l:List α) (i:Nat) (x:α),l[i]? =some x→l.modify i f=l.set i (f x)
 | [],i,x,h=>by simp at h
 | a::l,0,x,h=>by simp at h;subst h;rfl
 | a::l,i+1,x,h=>by rw[List.modify_succ_cons,List.set_cons_succ,modify_set f l i x kJ]
def PGf (l:List Held) (whole:Bool) (p:Nat→Prop) (w wr:World) (ov dv:Value) (vs:List Value) (g:List Part×List (List Int)) (i:Nat) (R:List Part×List (List Int)):Prop:=
 Own wr (fun b=>p b∧b< w.heap.size) w.heap.size 157 3 ov g.1.length (g.1.flatMap partC)∧F2 wr (fun b=>p b∧b< w.heap.size) w.heap.size 91 3 1 (fun x=> [intD x]) dv vs g.2∧(∀b,Mut dv vs b→some b≠ov.ownBlock)∧g.1.length=g.2.length∧g.1.length≤i∧(∀m∈g.2,m.length≤i)∧partsG whole (l.drop i) g=R
theorem PGf.ext {l:List Held} {whole:Bool} {p:Nat→Prop} {w wr W:World} {ov dv:Value} {vs:List Value} {g:List Part×List (List Int)} {i:Nat} {R:List Part×List (List Int)} (h:PGf l whole p w wr ov dv vs g i R) (hB:Ext wr W):PGf l whole p w W ov dv vs g i R:=
 ⟨h.1.ext hB,h.2.1.ext hB,h.2.2⟩
theorem parts_app {l:List Held} {whole:Bool} {p:Nat→Prop} {w wz W1 w3:World} {ov dv v2:Value} {vs:List Value} {g:List Part×List (List Int)} {i:Nat} {R:List Part×List (List Int)} {q:Part} {us news:List Value}
  (h:PGf l whole p w wz ov dv vs g i R) (hX:Ext w wz) (hE:Ext wz W1) (hq:Reps W1 (fun b=>p b∧b< w.heap.size) news (partC q)) (hrow:wz.ownsRow w.heap.size 157 3 ov g.1.length us) (hrep:Reps wz (fun b=>(p b∧b< w.heap.size)∧some b≠ov.ownBlock∧b< wz.heap.size) us (g.1.flatMap partC))
  (hown:w3.ownsRow w.heap.size 157 3 v2 (g.1.length+1) (us++news)) (hg:W1.grownBy w3 ov.ownBlock) (hat:v2.ownBlock=ov.ownBlock∨v2.ownBlock=some W1.heap.size):
  (Own w3 (fun b=>p b∧b< w.heap.size) w.heap.size 157 3 v2 (g.1.length+1) ((g.1++ [q]).flatMap partC)∧F2 w3 (fun b=>p b∧b< w.heap.size) w.heap.size 91 3 1 (fun x=> [intD x]) dv vs g.2∧∀b,Mut dv vs b→some b≠v2.ownBlock)∧Ext w w3:=by
 obtain⟨hO,hF,hA,_⟩:=h
 have hFz:=hF.ext hE
 refine⟨⟨?_,hFz.kept hg fun b e=>⟨fun hm=>hA b hm e.symm,fun hb=> ?_⟩,fun b hm e=> ?_⟩,Below.grown (hX.trans hE) hg (Below.size (hX.trans hE)) fun k hk=>(own_lt hrow hk.symm).1⟩
 ·
  rw[List.flatMap_append]
  have e1: [q].flatMap partC=partC q:=by simp
  rw[e1]
  have hsz:=(hX.trans hE).size
  exact Own.push ((hrep.ext hE).ok fun b hb=>⟨hb.1,hb.2.1,Nat.lt_of_lt_of_le hb.2.2 hE.size⟩) (hq.ok fun b hb=>⟨hb,fun e=>by have:=(own_lt hrow e).1;have:=hb.2;omega,by have:=hb.2;omega⟩) hown hg hat
 ·
  have:=(own_lt hrow e.symm).1;have:=hb.2;omega
 ·
  rcases hat with e2 | e2
  ·
   rw[e2]at e;exact hA b hm e
  ·
   rw[e2]at e;have:=(hFz.mut_lt hm).2;have:=Option.some.inj e;omega
end Go.Proofs.YtngmgjodcnknoaaGreatDoor
