/-
 Components of paths:told apart. Helper lemmas;no statement of the seat is proved here.
-/
import Derived.Test.YtngmgjodcnknoaaGreatDoorU21
import Derived.Test.YtngmgjodcnknoaaGreatDoorU25
import Derived.Test.YtngmgjodcnknoaaGreatDoorU29
import Derived.Test.YtngmgjodcnknoaaGreatDoorU31
namespace Go.Proofs.YtngmgjodcnknoaaGreatDoor
set_option maxHeartbeats 32000000
set_option maxRecDepth 100000
set_option linter.unusedVariables false
set_option linter.unusedSimpArgs false
def cleanX (x:UInt8):Bool→Bytes→Bool
 | false,[]=>true
 | true,[]=>false
 | true,_::r=>cleanX x false r
 | false,c::r=>if c=92 then cleanX x true r else if c=x then false else cleanX x false r
theorem clean_head {x:UInt8} (hx:x≠92) (r:Bytes):cleanX x false (x::r)=false:=by
 rw[cleanX,if_neg hx,if_pos rfl]
theorem clean_split {x:UInt8} (hx:x≠92):∀(a b s t:Bytes) (e:Bool),cleanX x e a=true→cleanX x e b=true→(s= []∨s.head? =some x)→(t= []∨t.head? =some x)→a++s=b++t→a=b∧s=t
 | [],[],s,t,e,_,_,_,_,h=>⟨rfl,by simpa using h⟩
 | [],d::b,s,t,e,ha,hb,hs,ht,h=>by
  cases e with
  | true=>simp[cleanX]at ha
  | false=>
   rw[List.nil_append]at h
   rw[h]at hs
   rcases hs with hs | hs
   ·
    simp at hs
   ·
    rw[List.cons_append,List.head?_cons]at hs
    obtain rfl:=Option.some.inj hs
    rw[clean_head hx]at hb;cases hb
 | c::a,[],s,t,e,ha,hb,hs,ht,h=>by
  cases e with
  | true=>simp[cleanX]at hb
  | false=>
   rw[List.nil_append]at h
   rw[←h]at ht
   rcases ht with ht | ht
   ·
    simp at ht
   ·
    rw[List.cons_append,List.head?_cons]at ht
    obtain rfl:=Option.some.inj ht
    rw[clean_head hx]at ha;cases ha
 | c::a,d::b,s,t,e,ha,hb,hs,ht,h=>by
  rw[List.cons_append,List.cons_append]at h
  obtain⟨rfl,h2⟩:=List.cons.inj h
  cases e with
  | true=>
   rw[cleanX]at ha hb
   obtain⟨e1,e2⟩:=clean_split hx a b s t false ha hb hs ht h2
   exact⟨by rw[e1],e2⟩
  | false=>
   rw[cleanX]at ha hb
   by_cases h92:c=92
   ·
    rw[if_pos h92]at ha hb
    obtain⟨e1,e2⟩:=clean_split hx a b s t true ha hb hs ht h2
    exact⟨by rw[e1],e2⟩
   ·
    rw[if_neg h92]at ha hb
    by_cases hcx:c=x
    ·
     rw[if_pos hcx]at ha;cases ha
    ·
     rw[if_neg hcx]at ha hb
     obtain⟨e1,e2⟩:=clean_split hx a b s t false ha hb hs ht h2
     exact⟨by rw[e1],e2⟩
theorem clean_app {x:UInt8}:∀(a b:Bytes) (e:Bool),cleanX x e a=true→cleanX x false b=true→cleanX x e (a++b)=true
 | [],b,true,ha,_=>by simp[cleanX]at ha
 | [],b,false,_,hb=>hb
 | c::a,b,true,ha,hb=>by
  rw[cleanX]at ha
  rw[List.cons_append,cleanX]
  exact clean_app a b false ha hb
 | c::a,b,false,ha,hb=>by
  rw[cleanX]at ha
  rw[List.cons_append,cleanX]
  by_cases h92:c=92
  ·
   rw[if_pos h92]at ha⊢;exact clean_app a b true ha hb
  ·
   rw[if_neg h92]at ha⊢
   by_cases hcx:c=x
   ·
    rw[if_pos hcx]at ha;cases ha
   ·
    rw[if_neg hcx]at ha⊢;exact clean_app a b false ha hb
theorem clean_plain {x:UInt8}:∀a:Bytes,(∀c∈a,c≠92∧c≠x)→cleanX x false a=true
 | [],_=>rfl
 | c::a,h=>by
  rw[cleanX,if_neg (h c kI).1,if_neg (h c kI).2]
  exact clean_plain a fun d hd=>h d (List.mem_cons_of_mem _ hd)
theorem clean_pesc {x:UInt8} (hx:x=44∨x=47):∀s:Bytes,cleanX x false (pescS s)=true
 | []=>rfl
 | c::s=>by
  have e:pescS (c::s)=(if c=92∨c=123∨c=125∨c=44∨c=47 then [92,c]else [c])++pescS s:=rfl
  rw[e]
  refine clean_app _ _ _ ?_ (clean_pesc hx s)
  split
  ·
   rfl
  ·
   rename_i h
   refine clean_plain _ fun d hd=> ?_
   obtain rfl:=List.mem_singleton.1 hd
   refine⟨fun e=>h (.inl e),fun e=>h ?_⟩
   rcases hx with rfl | rfl
   ·
    exact .inr (.inr (.inr (.inl e)))
   ·
    exact .inr (.inr (.inr (.inr e)))
theorem pesc_inj:∀s t:Bytes,pescS s=pescS t→s=t
 | [],[],_=>rfl
 | [],c::t,h=>by
  have e:pescS (c::t)=(if c=92∨c=123∨c=125∨c=44∨c=47 then [92,c]else [c])++pescS t:=rfl
  rw[e]at h
  split at h<;> cases h
 | c::s,[],h=>by
  have e:pescS (c::s)=(if c=92∨c=123∨c=125∨c=44∨c=47 then [92,c]else [c])++pescS s:=rfl
  rw[e]at h
  split at h<;> cases h
 | c::s,d::t,h=>by
  have e:pescS (c::s)=(if c=92∨c=123∨c=125∨c=44∨c=47 then [92,c]else [c])++pescS s:=rfl
  have e':pescS (d::t)=(if d=92∨d=123∨d=125∨d=44∨d=47 then [92,d]else [d])++pescS t:=rfl
  rw[e,e']at h
  by_cases hc:c=92∨c=123∨c=125∨c=44∨c=47
  ·
   by_cases hd:d=92∨d=123∨d=125∨d=44∨d=47
   ·
    rw[if_pos hc,if_pos hd]at h
    simp only[List.cons_append,List.nil_append,List.cons.injEq,true_and]at h
    rw[h.1,pesc_inj s t h.2]
   ·
    rw[if_pos hc,if_neg hd]at h
    simp only[List.cons_append,List.nil_append,List.cons.injEq]at h
    exact absurd (.inl h.1.symm) hd
  ·
   by_cases hd:d=92∨d=123∨d=125∨d=44∨d=47
   ·
    rw[if_neg hc,if_pos hd]at h
    simp only[List.cons_append,List.nil_append,List.cons.injEq]at h
    exact absurd (.inl h.1) hc
   ·
    rw[if_neg hc,if_neg hd]at h
    simp only[List.cons_append,List.nil_append,List.cons.injEq]at h
    rw[h.1,pesc_inj s t h.2]
theorem join_more (a b:Bytes) (r:List Bytes):Lib.join ((a::b::r).map pescS) [44]=pescS a++44::Lib.join ((b::r).map pescS) [44]:=by
 rw[List.map_cons,List.map_cons,join_cons2];rfl
theorem join_single (a:Bytes):Lib.join ([a].map pescS) [44]=pescS a:=join_one _
theorem clean_join:∀L:List Bytes,cleanX 47 false (Lib.join (L.map pescS) [44])=true
 | []=>rfl
 | [a]=>by rw[join_single];exact clean_pesc (.inr rfl) a
 | a::b::r=>by
  rw[join_more]
  refine clean_app _ _ _ (clean_pesc (.inr rfl) a) ?_
  rw[cleanX,if_neg kD,if_neg kD]
  exact clean_join (b::r)
theorem join_inj:∀L M:List Bytes,L≠ []→M≠ []→Lib.join (L.map pescS) [44]=Lib.join (M.map pescS) [44]→L=M
 | [],_,h,_,_=>absurd rfl h
 | _,[],_,h,_=>absurd rfl h
 | [a],[b],_,_,h=>by
  rw[join_single,join_single]at h
  rw[pesc_inj a b h]
 | [a],b::c::r,_,_,h=>by
  rw[join_single,join_more]at h
  have:=clean_split (x:=44) kD (pescS a) (pescS b) [] (44::Lib.join ((c::r).map pescS) [44]) false (clean_pesc (.inl rfl) a) (clean_pesc (.inl rfl) b) (.inl rfl) (.inr rfl) (by rw[List.append_nil];exact h)
  cases this.2
 | a::c::r,[b],_,_,h=>by
  rw[join_single,join_more]at h
  have:=clean_split (x:=44) kD (pescS a) (pescS b) (44::Lib.join ((c::r).map pescS) [44]) [] false (clean_pesc (.inl rfl) a) (clean_pesc (.inl rfl) b) (.inr rfl) (.inl rfl) (by rw[List.append_nil];exact h)
  cases this.2
 | a::c::r,b::d::q,_,_,h=>by
  rw[join_more,join_more]at h
  have:=clean_split (x:=44) kD (pescS a) (pescS b) (44::Lib.join ((c::r).map pescS) [44]) (44::Lib.join ((d::q).map pescS) [44]) false (clean_pesc (.inl rfl) a) (clean_pesc (.inl rfl) b) (.inr rfl) (.inr rfl) h
  rw[pesc_inj a b this.1,join_inj (c::r) (d::q) kI kI (List.cons.inj this.2).2]
theorem name_free {nm:Bytes} (h:NameP nm) {c:UInt8} (hc:c∈nm):c≠92∧c≠47∧c≠123∧c≠64∧c≠35:=by
 have h1:=h.1 c hc
 refine⟨?_,?_,?_,?_,?_⟩<;> intro e<;> subst e<;> have h2:=h1 kD<;> unfold goC at h2<;> revert h2<;> decide
theorem end_clean {s:Step} (h:NameP s.n):cleanX 47 false (endS s)=true:=by
 have h1:cleanX 47 false s.n=true:=clean_plain _ fun c hc=>⟨(name_free h hc).1,(name_free h hc).2.1⟩
 unfold endS
 split
 ·
  exact h1
 ·
  rw[List.append_assoc,List.append_assoc]
  refine clean_app _ _ _ h1 (clean_app _ _ _ kD (clean_app _ _ _ (clean_join _) kD))
theorem name_brace:∀(a b X Y:Bytes),(∀c∈a,c≠123)→(∀c∈b,c≠123)→a++123::X=b++123::Y→a=b∧X=Y
 | [],[],X,Y,_,_,h=>⟨rfl,(List.cons.inj h).2⟩
 | [],d::b,X,Y,_,hb,h=>by
  have:=(List.cons.inj h).1
  exact absurd this.symm (hb d kI)
 | c::a,[],X,Y,ha,_,h=>by
  have:=(List.cons.inj h).1
  exact absurd this (ha c kI)
 | c::a,d::b,X,Y,ha,hb,h=>by
  obtain⟨h1,h2⟩:=List.cons.inj h
  obtain⟨e1,e2⟩:=name_brace a b X Y (fun x hx=>ha x (List.mem_cons_of_mem _ hx)) (fun x hx=>hb x (List.mem_cons_of_mem _ hx)) h2
  exact⟨by rw[h1,e1],e2⟩
theorem end_inj {s t:Step} (hs:NameP s.n) (ht:NameP t.n) (h:endS s=endS t):s=t:=by
 obtain⟨sn,sk⟩:=s
 obtain⟨tn,tk⟩:=t
 have fs:∀c∈sn,c≠123:=fun c hc=>(name_free hs hc).2.2.1
 have ft:∀c∈tn,c≠123:=fun c hc=>(name_free ht hc).2.2.1
 unfold endS at h
 simp only at h
 by_cases h1:sk= []
 ·
  by_cases h2:tk= []
  ·
   rw[if_pos h1,if_pos h2]at h;rw[h,h1,h2]
  ·
   rw[if_pos h1,if_neg h2]at h
   exact absurd rfl (fs 123 (by rw[h];simp))
 ·
  by_cases h2:tk= []
  ·
   rw[if_neg h1,if_pos h2]at h
   exact absurd rfl (ft 123 (by rw[←h];simp))
  ·
   rw[if_neg h1,if_neg h2]at h
   simp only[List.append_assoc,List.cons_append,List.nil_append]at h
   obtain⟨e1,e2⟩:=name_brace sn tn _ _ fs ft h
   have e3:=List.append_cancel_right e2
   rw[e1,join_inj sk tk h1 h2 e3]
def valD (b:Bytes):Nat:=b.foldl (fun a c=>a*10+(c.toNat - 48)) 0
theorem digit_nat {d:Nat} (h:d< 10):(UInt8.ofNat (48+d)).toNat=48+d:=by
 rw[UInt8.toNat_ofNat'];omega
theorem decD_val:∀(n u:Nat),u≤n→valD (Lib.decDigits u)=u∧∀c∈Lib.decDigits u,48≤c.toNat∧c.toNat≤57:=by
 intro n
 induction n with
 | zero=>
  intro u hu
  obtain rfl:u=0:=by omega
  rw[Lib.decDigits,dif_pos kA]
  exact⟨rfl,fun c hc=>by obtain rfl:=List.mem_singleton.1 hc;exact⟨by decide,by decide⟩⟩
 | succ n ih=>
  intro u hu
  rw[Lib.decDigits]
  by_cases h:u< 10
  ·
   rw[dif_pos h]
   refine⟨?_,fun c hc=> ?_⟩
   ·
    show 0*10+((UInt8.ofNat (48+u)).toNat - 48)=u
    rw[digit_nat h];omega
   ·
    obtain rfl:=List.mem_singleton.1 hc
    rw[digit_nat h];omega
  ·
   rw[dif_neg h]
   obtain⟨h1,h2⟩:=ih (u / 10) kA
   refine⟨?_,fun c hc=> ?_⟩
   ·
    unfold valD at h1⊢
    rw[List.foldl_append,h1]
    show u / 10*10+((UInt8.ofNat (48+u % 10)).toNat - 48)=u
    rw[digit_nat kA];omega
   ·
    rcases List.mem_append.1 hc with hc | hc
    ·
     exact h2 c hc
    ·
     obtain rfl:=List.mem_singleton.1 hc
     rw[digit_nat kA];omega
theorem itoaS_inj {u v:Nat} (h:itoaS u=itoaS v):u=v:=by
 have h1:=(decD_val u u (Nat.le_refl _)).1
 have h2:=(decD_val v v (Nat.le_refl _)).1
 unfold itoaS at h
 rw[h]at h1
 omega
theorem itoaS_clean (u:Nat):cleanX 47 false (itoaS u)=true:=clean_plain _ fun c hc=>by
 have:=(decD_val u u (Nat.le_refl _)).2 c hc
 refine⟨fun e=> ?_,fun e=> ?_⟩<;> subst e<;> revert this<;> decide
theorem lessK_irr:∀a:List Bytes,lessK a a=false
 | []=>rfl
 | a::r=>by rw[lessK,if_pos rfl];exact lessK_irr r
theorem rising_ne {l:List Step} (h:Rising l):l.Pairwise (· ≠ ·):=h.imp fun h e=>by
 rw[e,aheadB,if_pos rfl,lessK_irr]at h;cases h
def Under (p q:Bytes):Prop:=∃s,q=p++s∧(s= []∨s.head? =some 47)
def Comp (p c q:Bytes):Prop:=Under (p++([47]++c)) q
theorem under_refl (p:Bytes):Under p p:=⟨[],by simp,.inl rfl⟩
theorem comp_under {p c q:Bytes} (h:Comp p c q):Under p q:=by
 obtain⟨s,rfl,_⟩:=h
 exact⟨[47]++c++s,by simp,.inr rfl⟩
theorem comp_ne {p c q:Bytes} (h:Comp p c q):q≠p:=by
 obtain⟨s,rfl,_⟩:=h
 intro e
 have:=congrArg List.length e
 simp at this
theorem comp_eq {p c d q:Bytes} (hc:cleanX 47 false c=true) (hd:cleanX 47 false d=true) (h:Comp p c q) (k:Comp p d q):c=d:=by
 obtain⟨s,rfl,hs⟩:=h
 obtain⟨t,e,ht⟩:=k
 simp only[List.append_assoc,List.cons_append,List.nil_append]at e
 have e2:=List.append_cancel_left e
 exact(clean_split (x:=47) kD c d s t false hc hd hs ht (List.cons.inj e2).2).1
def pathsOf (R:List R4):List Bytes:=R.map fun r=>r.2.2.2
def UniqN (R:List R4) (p:Bytes):Prop:=(pathsOf R).Nodup∧∀q∈pathsOf R,Under p q
def UniqL (R:List R4) (p:Bytes) (C:Bytes→Prop):Prop:=(pathsOf R).Nodup∧∀q∈pathsOf R,∃c,C c∧cleanX 47 false c=true∧Comp p c q
theorem uniq_cons {R S:List R4} {p c:Bytes} {C D:Bytes→Prop} (hc:cleanX 47 false c=true) (h:UniqN R (p++([47]++c))) (k:UniqL S p C) (hn:¬C c) (hD:D c) (hCD:∀d,C d→D d):UniqL (R++S) p D:=by
 refine⟨?_,fun q hq=> ?_⟩
 ·
  unfold pathsOf at*
  rw[List.map_append,List.nodup_append]
  refine⟨h.1,k.1,fun a ha b hb e=> ?_⟩
  obtain⟨d,hd,hdc,hdp⟩:=k.2 b hb
  have:=comp_eq hc hdc (show Comp p c a from h.2 a ha) (e ▸ hdp)
  rw[this]at hn
  exact hn hd
 ·
  unfold pathsOf at*
  rw[List.map_append]at hq
  rcases List.mem_append.1 hq with hq | hq
  ·
   exact⟨c,hD,hc,h.2 q hq⟩
  ·
   obtain⟨d,hd,hdc,hdp⟩:=k.2 q hq
   exact⟨d,hCD d hd,hdc,hdp⟩
theorem uniq_node {R:List R4} {p nm tx:Bytes} {k:Int} {la:List Attr} {C:Bytes→Prop} (hla:(∀a∈la,a.n≠ []∧NameP a.n)∧(la.map (·.n)).Nodup) (h:UniqL R p C) (hC:∀c,C c→c.head? ≠some 64):UniqN ((k,nm,tx,p)::attrRows p la++R) p:=by
 have ha:∀q∈pathsOf (attrRows p la),∃a∈la,q=p++([47,64]++a.n):=fun q hq=>by
  unfold pathsOf attrRows at hq
  rw[List.map_map]at hq
  obtain⟨a,h1,rfl⟩:=List.mem_map.1 hq
  exact⟨a,h1,rfl⟩
 have hac:∀a∈la,cleanX 47 false (64::a.n)=true∧Comp p (64::a.n) (p++([47,64]++a.n)):=fun a hm=>
  ⟨clean_plain _ fun c hc=>by
   rcases List.mem_cons.1 hc with rfl | hc
   ·
    exact⟨by decide,by decide⟩
   ·
    have:=name_free (hla.1 a hm).2 hc;exact⟨this.1,this.2.1⟩,⟨[],by simp,.inl rfl⟩⟩
 have e:pathsOf ((k,nm,tx,p)::attrRows p la++R)=p::(pathsOf (attrRows p la)++pathsOf R):=by unfold pathsOf;simp
 refine⟨?_,fun q hq=> ?_⟩
 ·
  rw[e,List.nodup_cons,List.nodup_append]
  refine⟨fun hm=> ?_,?_,h.1,fun a h1 b h2 e'=> ?_⟩
  ·
   rcases List.mem_append.1 hm with hm | hm
   ·
    obtain⟨a,h1,h2⟩:=ha p hm
    exact comp_ne (hac a h1).2 h2.symm
   ·
    obtain⟨c,_,_,h2⟩:=h.2 p hm
    exact comp_ne h2 rfl
  ·
   have e2:pathsOf (attrRows p la)=(la.map (·.n)).map fun x=>p++([47,64]++x):=by unfold pathsOf attrRows;rw[List.map_map,List.map_map];rfl
   rw[e2]
   refine List.Pairwise.map (R:=fun a b=>a≠b) _ (fun a b hab e3=>hab ?_) hla.2
   exact List.append_cancel_left (List.append_cancel_left e3)
  ·
   obtain⟨x,hx,rfl⟩:=ha a h1
   obtain⟨c,hc,hcc,hcp⟩:=h.2 b h2
   have:=comp_eq (hac x hx).1 hcc (hac x hx).2 (e' ▸ hcp)
   exact hC c hc (by rw[←this];rfl)
 ·
  rw[e]at hq
  rcases List.mem_cons.1 hq with rfl | hq
  ·
   exact under_refl _
  ·
   rcases List.mem_append.1 hq with hq | hq
   ·
    obtain⟨a,h1,rfl⟩:=ha q hq
    exact comp_under (hac a h1).2
   ·
    obtain⟨c,_,_,hcp⟩:=h.2 q hq
    exact comp_under hcp
theorem fairN_name {n:Node} (h:fairN n=true) (hk:n.kind=1):n.name≠ []∧NameP n.name:=by
 obtain⟨k,nm,tx,la,ks⟩:=n
 obtain rfl:k=1:=hk
 rw[fairN,Bool.and_eq_true,if_pos rfl,Bool.and_eq_true]at h
 exact(@of_decide_eq_true _ (Classical.propDecidable _) h.1.2).1
theorem end_head {s:Step} (h:s.n≠ []) (hn:NameP s.n):(endS s).head? ≠some 64:=by
 obtain⟨sn,sk⟩:=s
 cases sn with
 | nil=>exact absurd rfl h
 | cons c r=>
  have hc:=(name_free hn (c:=c) kI).2.2.2.1
  have e:(endS ⟨c::r,sk⟩).head? =some c:=by unfold endS;split<;> rfl
  rw[e]
  intro e'
  exact hc (Option.some.inj e')
theorem uniq_nil (p:Bytes) (C:Bytes→Prop):UniqL [] p C:=⟨List.nodup_nil,fun q hq=>by cases hq⟩
mutual
theorem uniqN (l:List Rule):∀(n:Node) (path:Bytes) (names:List Bytes),fairN n=true→(names= []∨wfN l n names)→UniqN (rowsD l n path names) path
 | .mk k nm tx la ks,path,names,hf,hw=>by
  rw[fairN,Bool.and_eq_true,Bool.and_eq_true]at hf
  rw[rowsD]
  by_cases hk:k=1
  ·
   rw[if_pos hk,Bool.and_eq_true]at hf
   have hN:= @of_decide_eq_true _ (Classical.propDecidable _) hf.1.2
   by_cases hkd:keyedB l names=true
   ·
    rw[if_pos hkd]
    have hkd':=hkd
    unfold keyedB at hkd'
    rw[Bool.and_eq_true,Bool.not_eq_true',Bool.not_eq_true']at hkd'
    have hne:names≠ []:=fun e=>by rw[e]at hkd';cases hkd'.1
    have hwf:=hw.resolve_left hne
    rw[wfN]at hwf
    obtain⟨h1,h2,h3⟩:=hwf.2 hkd'.2
    exact uniq_node hN.2 (uniqL_some l ks path names 0 hf.2.2 h3 h1 (rising_ne h2)) fun c ⟨s,_,hs1,hs2,e⟩=>by rw[e];exact end_head hs2 hs1
   ·
    rw[if_neg hkd]
    exact uniq_node hN.2 (uniqL_none l ks path names 0 hf.2.2) fun c ⟨j,_,e⟩=>by rw[e];simp
  ·
   rw[if_neg hk,Bool.and_eq_true]at hf
   have h1:=of_decide_eq_true hf.1.1
   have h2:=of_decide_eq_true hf.1.2
   subst h1 h2
   rw[show rowsL l [] path names (if keyedB l names=true then some (stepsS l names [])else none) 0= [] by split<;> rw[rowsL]]
   exact uniq_node ⟨(fun a ha=>by cases ha),List.nodup_nil⟩ (uniq_nil path fun _=>False) fun c h=>h.elim
theorem uniqL_none (l:List Rule):∀(ks:List Node) (path:Bytes) (names:List Bytes) (i:Nat),fairL ks=true→UniqL (rowsL l ks path names none i) path (fun c=>∃j,i≤j∧c=35::itoaS (j+1))
 | [],path,names,i,_=>by rw[rowsL];exact uniq_nil _ _
 | k::r,path,names,i,hf=>by
  rw[fairL,Bool.and_eq_true]at hf
  rw[rowsL]
  refine uniq_cons (c:=35::itoaS (i+1)) ?_ (uniqN l k (idxPath path i) [] hf.1 (.inl rfl)) (uniqL_none l r path names (i+1) hf.2) ?_ ⟨i,Nat.le_refl _,rfl⟩ (fun d ⟨j,h,e⟩=>⟨j,by omega,e⟩)
  ·
   rw[cleanX,if_neg kD,if_neg kD];exact itoaS_clean _
  ·
   rintro⟨j,h,e⟩
   have:=itoaS_inj (List.cons.inj e).2
   omega
theorem uniqL_some (l:List Rule):∀(ks:List Node) (path:Bytes) (names:List Bytes) (i:Nat),fairL ks=true→wfL l ks names→(stepsS l names ks).length=ks.length→(stepsS l names ks).Pairwise (· ≠ ·)→
  UniqL (rowsL l ks path names (some (stepsS l names ks)) i) path (fun c=>∃s∈stepsS l names ks,NameP s.n∧s.n≠ []∧c=endS s)
 | [],path,names,i,_,_,_,_=>by rw[rowsL];exact uniq_nil _ _
 | k::r,path,names,i,hf,hw,hl,hp=>by
  rw[fairL,Bool.and_eq_true]at hf
  rw[wfL]at hw
  have hk1:k.kind=1:=((wfN_eq l k _).1 hw.1).1
  obtain⟨n1,n2⟩:=fairN_name hf.1 hk1
  have hst:∃ky,stepsS l names (k::r)=⟨k.name,ky⟩::stepsS l names r:=by
   rw[stepsS]at hl⊢
   split at hl
   ·
    have:=stepsS_len l names r
    rw[List.length_cons]at hl;omega
   ·
    rename_i h;rw[if_neg h];exact⟨_,rfl⟩
  obtain⟨ky,hst⟩:=hst
  rw[hst]at hl hp⊢
  rw[List.length_cons,List.length_cons]at hl
  obtain⟨p1,p2⟩:=List.pairwise_cons.1 hp
  rw[rowsL]
  refine uniq_cons (c:=endS ⟨k.name,ky⟩) (end_clean n2) (uniqN l k (stepPath path ⟨k.name,ky⟩) (names++ [k.name]) hf.1 (.inr hw.1)) (uniqL_some l r path names (i+1) hf.2 hw.2 kA p2) ?_ ⟨_,List.mem_cons_self,n2,n1,rfl⟩ (fun d ⟨s,h,e⟩=>⟨s,List.mem_cons_of_mem _ h,e⟩)
  rintro⟨s,h,h1,_,e⟩
  exact p1 s h (end_inj n2 h1 e)
end
open Go.RowKit
theorem tab_nodup {l:List Rule} {nm:Bytes} {ks:List Bytes} {rs:List Rule} (hl:l=⟨[nm],ks⟩::rs) {d:Node} (h:NForm2 l d) (hf:fairN d=true) (t:List QN) (e:t.map k4=tabD l d):(t.map fun q=>rowP ((0:Int),k4 q)).Nodup:=by
 obtain⟨w1,_,w3⟩:=nf_wf hl h
 have hk:d.kind=1:=((wfN_eq l d _).1 w1).1
 obtain⟨n1,n2⟩:=fairN_name hf hk
 have hu:=uniqN l d ([47]++d.name) [d.name] hf (.inr (by rw[w3];exact w1))
 have e2:(t.map fun q=>rowP ((0:Int),k4 q))=pathsOf (tabD l d):=by
  rw[←e];unfold pathsOf;rw[List.map_map];rfl
 rw[e2]
 have e3:pathsOf (tabD l d)= [47]::pathsOf (rowsD l d ([47]++d.name) [d.name]):=rfl
 rw[e3,List.nodup_cons]
 refine⟨fun hm=> ?_,hu.1⟩
 obtain⟨s,hs,_⟩:=hu.2 _ hm
 cases hn:d.name with
 | nil=>exact n1 hn
 | cons c r=>rw[hn]at hs;simp at hs
theorem made2_any (l:List Rule) (hb:RulesB l) (hll:l.length≤1048576) (docs:List Node) (hcnt:∀d∈docs,cntN d≤1048576) (p:Nat→Prop) (vl vd:Value) (w:World) (hvl:Rep w p vl (rulesD l)) (hvd:Rep w p vd (nodesD docs)):
  Calls Tryz.prog 7 #[vl,vd] w fun e w'=>MadeS l e w'∧Ext w w':=by
 obtain⟨w1,hw1⟩:∃X,w.alloc (.cells #[.int .i64 0,.string ⟨#[]⟩,.slice none 0 0,.slice none 0 0,.slice none 0 0,.slice none 0 0] 34)=X:=⟨_,rfl⟩
 have hE1:Ext w w1:=by rw[←hw1];exact(Ext.refl _).alloc _
 have hz1:Z6 w1 w.heap.size:=by
  rw[←hw1]
  exact⟨by simp,by simp[go_sem],by simp[go_sem],by simp[go_sem],by simp[go_sem],by simp[go_sem],by simp[go_sem],by simp[go_sem],by simp[go_sem],by simp[go_sem],by simp[go_sem],by simp[go_sem],by simp[go_sem]⟩
 have HFI:=Lh (fits2_any l hb hll docs p vl vd w1 hcnt (hvl.ext hE1) (hvd.ext hE1))
 have HNO:=Lh fun W (hE:Ext w1 W) (hc:∀d∈docs,cntN d≤1200) (hn:docs.length≤12)=>normals2_any l hb hll docs p vl vd W hc kA ((hvl.ext hE1).ext hE) ((hvd.ext hE1).ext hE)
 obtain⟨la,lc,rfl,_,_⟩:=hvl.count z_rule kA
 obtain⟨da,dc,rfl,_,_⟩:=hvd.count z_node kA
 have HZ1:=Lh (And.intro hz1 (And.intro hE1 (And.intro hvl hb)))
 clear hz1 hE1 hcnt hvl hvd hb
 go_enter Tryz.func7,Tryz.ntmps7
 go_wp2_with fail
 refine HFI.out.mono ?_
 rintro e w2 ⟨⟨b1,rfl,hf⟩,hX2⟩
 have HF:=Lh hf
 have HX2:=Lh hX2
 clear HFI hf hX2 hw1
 cases b1 with
 | false=>
  have HZ:=Lh (HZ1.out.1.ext HX2.out)
  have hXw:=HZ1.out.2.1.trans HX2.out
  have hz:=HZ.out
  obtain⟨u0,c0⟩:∃u,w2.cell? ⟨w.heap.size,0,none⟩=some u:=⟨_,hz.c0⟩;obtain⟨u1,c1⟩:∃u,w2.cell? ⟨w.heap.size,1,none⟩=some u:=⟨_,hz.c1⟩;obtain⟨u2,c2⟩:∃u,w2.cell? ⟨w.heap.size,2,none⟩=some u:=⟨_,hz.c2⟩;obtain⟨u3,c3⟩:∃u,w2.cell? ⟨w.heap.size,3,none⟩=some u:=⟨_,hz.c3⟩;obtain⟨u4,c4⟩:∃u,w2.cell? ⟨w.heap.size,4,none⟩=some u:=⟨_,hz.c4⟩;obtain⟨u5,c5⟩:∃u,w2.cell? ⟨w.heap.size,5,none⟩=some u:=⟨_,hz.c5⟩
  have f0:=hz.f0;have f1:=hz.f1;have f2:=hz.f2;have f3:=hz.f3;have f4:=hz.f4;have f5:=hz.f5
  clear hz
  go_wp2_with fail
  (try simp only[Exit.inBlock,Exit.then])
  refine bodyPost_ret (res_ctt rfl _ _ _ ⟨w.heap.size,0,none⟩ ?_ (load_arch HZ.out 0 zeroA (.slice none 0 0) (.slice none 0 0) (.slice none 0 0) (.slice none 0 0))) rfl ?_
  ·
   rfl
  refine⟨⟨false,0,zeroA,none,none,none,none,none,0,0,0,0,0,0,rfl,fun h=>by cases h⟩,?_⟩
  exact((((((hXw.set (p:=⟨w.heap.size,0,none⟩) (Nat.le_refl _) _).set (p:=⟨w.heap.size,1,none⟩) (Nat.le_refl _) _).set (p:=⟨w.heap.size,2,none⟩) (Nat.le_refl _) _).set (p:=⟨w.heap.size,3,none⟩) (Nat.le_refl _) _).set (p:=⟨w.heap.size,4,none⟩) (Nat.le_refl _) _).set (p:=⟨w.heap.size,5,none⟩) (Nat.le_refl _) _)
 | true=>
  obtain⟨hd12,hmay,hd1200,hkeys⟩:=HF.out rfl
  obtain⟨nm,ks,rs,hl⟩:=hmay.root
  have hok:RulesOk l:=hmay.rules HZ1.out.2.2.2
  have HNR:=Lh (HNO.out w2 HX2.out hd1200 hd12)
  have HL:=Lh (And.intro hl (And.intro hok (And.intro hkeys hd12)))
  clear hmay hl hok hd1200 hkeys HNO HF
  go_wp2_with fail
  refine HNR.out.mono ?_
  rintro e w3 ⟨⟨L,⟨nv,rfl,hnv⟩,hLl,hLn⟩,hX3⟩
  obtain⟨na,nc,rfl,_,_⟩:=hnv.count z_node kA
  have hX13:=HX2.out.trans hX3
  have hDO:=fun d hd=>nf_doc HL.out.1 HL.out.2.2.1 (hLn d hd)
  have hvl3:=HZ1.out.2.2.1.ext (HZ1.out.2.1.trans hX13)
  have HTB:=Lh (rtabs_any l HL.out.2.1 L (fun d hd=>⟨(hDO d hd).1,by have:=(hDO d hd).2.1;omega⟩) kA p (fun _=>True) _ _ w3 hvl3 (hnv.ok fun _ _=>trivial))
  have hw2s:w.heap.size< w2.heap.size:=Nat.lt_of_lt_of_le HZ1.out.1.lt HX2.out.size
  have HN:=Lh (And.intro hLn (And.intro (hnv.ok (q:=fun b=>b≠w.heap.size) fun b hb=>by omega) (And.intro ((HZ1.out.2.2.1.lt.ext (HZ1.out.2.1.trans hX13)).ok (q:=fun b=>b≠w.heap.size) fun b hb=>by have:=hb.2;omega) hX13)))
  clear hLn hnv hX3 hX13 hDO hvl3 HNR hw2s
  go_wp2_with fail
  refine HTB.out.mono ?_
  rintro e w4 ⟨⟨T,⟨tv,rfl,htv⟩,hTk,hTok⟩,hX4⟩
  obtain⟨ta,tc,rfl,_,_⟩:=htv.count z_tab kA
  have hTl:T.length=L.length:=by have:=congrArg List.length hTk;simpa using this
  have hw3s:w.heap.size< w3.heap.size:=Nat.lt_of_lt_of_le HZ1.out.1.lt HN.out.2.2.2.size
  have HT:=Lh (And.intro (htv.ok (q:=fun b=>b≠w.heap.size) fun b hb=>by omega) (And.intro hTk (And.intro hTok (And.intro (HN.out.2.2.2.trans hX4) (And.intro hX4 hTl)))))
  have hT12:T.length≤12:=by have:=HL.out.2.2.2;omega
  clear htv hTk hTok hX4 HTB hTl hw3s
  go_wp2_with fail
  go_loopw [9] (fun t wr=>∃i:Nat,t= .int .i64 i∧i≤T.length∧wr=w4∧Hid (∀(j:Nat) (h:j< T.length),j< i→T[j].length≤100)) (fun t _=>downV T.length t)
  case atStart=>exact⟨0,rfl,Nat.zero_le _,rfl,Lh fun j _ h=>absurd h (Nat.not_lt_zero _)⟩
  case round=>
   obtain⟨i,rfl,hi,rfl,HI⟩:=hrel
   have hi0:=nZ0 i
   by_cases hlt:i< T.length
   ·
    have hlI:(i:Int)< (T.length:Int):=by omega
    obtain⟨gt,ot,ut,hgt,lgt,ct,hut⟩:=tab_at HT.out.1 i hlt
    subst hgt
    have hIK:=HI.out
    obtain⟨M,hM⟩:∃M,T[i]=M:=⟨_,rfl⟩
    rw[hM]at hut
    obtain⟨ma,mc,rfl,_,_⟩:=hut.count z_qn kA
    have HM:=Lh hM
    clear hut hM
    by_cases h100:M.length≤100
    ·
     have hg:¬(100:Int)< (M.length:Int):=by omega
     have HI2:Hid (∀(j:Nat) (h:j< T.length),j< i+1→T[j].length≤100):=Lh fun j hj hji=>by
      by_cases e:j=i
      ·
       subst e;rw[HM.out];exact h100
      ·
       exact hIK j hj kA
     clear hIK HI
     go_wp2_with fail
     go_roundw
     case rel=>exact⟨i+1,by go_num,by omega,trivial,HI2⟩
     case measure=>exact mZ
    ·
     have hg:(100:Int)< (M.length:Int):=by omega
     have HZ:=Lh (HZ1.out.1.ext HT.out.2.2.2.1)
     have hXw:=HZ1.out.2.1.trans HT.out.2.2.2.1
     clear hIK HI
     have hz:=HZ.out
     obtain⟨u0,c0⟩:∃u,wr.cell? ⟨w.heap.size,0,none⟩=some u:=⟨_,hz.c0⟩;obtain⟨u1,c1⟩:∃u,wr.cell? ⟨w.heap.size,1,none⟩=some u:=⟨_,hz.c1⟩;obtain⟨u2,c2⟩:∃u,wr.cell? ⟨w.heap.size,2,none⟩=some u:=⟨_,hz.c2⟩;obtain⟨u3,c3⟩:∃u,wr.cell? ⟨w.heap.size,3,none⟩=some u:=⟨_,hz.c3⟩;obtain⟨u4,c4⟩:∃u,wr.cell? ⟨w.heap.size,4,none⟩=some u:=⟨_,hz.c4⟩;obtain⟨u5,c5⟩:∃u,wr.cell? ⟨w.heap.size,5,none⟩=some u:=⟨_,hz.c5⟩
     have f0:=hz.f0;have f1:=hz.f1;have f2:=hz.f2;have f3:=hz.f3;have f4:=hz.f4;have f5:=hz.f5
     clear hz
     go_wp2_with fail
     (try simp only[Exit.inBlock,Exit.then])
     refine bodyPost_ret (res_ctt rfl _ _ _ ⟨w.heap.size,0,none⟩ ?_ (load_arch HZ.out 0 zeroA (.slice none 0 0) (.slice none 0 0) (.slice none 0 0) (.slice none 0 0))) rfl ?_
     ·
      rfl
     refine⟨⟨false,0,zeroA,none,none,none,none,none,0,0,0,0,0,0,rfl,fun h=>by cases h⟩,?_⟩
     exact((((((hXw.set (p:=⟨w.heap.size,0,none⟩) (Nat.le_refl _) _).set (p:=⟨w.heap.size,1,none⟩) (Nat.le_refl _) _).set (p:=⟨w.heap.size,2,none⟩) (Nat.le_refl _) _).set (p:=⟨w.heap.size,3,none⟩) (Nat.le_refl _) _).set (p:=⟨w.heap.size,4,none⟩) (Nat.le_refl _) _).set (p:=⟨w.heap.size,5,none⟩) (Nat.le_refl _) _)
   ·
    have hlI:¬(i:Int)< (T.length:Int):=by omega
    have h100:∀t∈T,t.length≤100:=fun t ht=>by
     obtain⟨j,hj,rfl⟩:=List.getElem_of_mem ht
     exact HI.out j hj kA
    have hTe:∀d∈L,(tabD l d).length≤100:=fun d hd=>by
     have h1:tabD l d∈T.map (·.map k4):=by rw[HT.out.2.1];exact List.mem_map.2 ⟨d,hd,rfl⟩
     obtain⟨t,ht,e⟩:=List.mem_map.1 h1
     rw[←e,List.length_map]
     exact h100 t ht
    have hND:∀t∈T,(t.map fun q=>rowP ((0:Int),k4 q)).Nodup:=fun t ht=>by
     have h1:t.map k4∈T.map (·.map k4):=List.mem_map.2 ⟨t,ht,rfl⟩
     rw[HT.out.2.1]at h1
     obtain⟨d,hd,e⟩:=List.mem_map.1 h1
     exact tab_nodup HL.out.1 (HN.out.1 d hd) ((fun h=>nform_fair (NForm2.to h)) (HN.out.1 d hd)) t e.symm
    have hL12:L.length≤12:=by have:=HL.out.2.2.2;omega
    have hAR:=ar_ok HL.out.1 HL.out.2.2.1 HN.out.1 hL12 hTe
    have hPS:=psA_T HL.out.1 HN.out.1 hL12 T HT.out.2.1
    have HBU:=Lh (build_any l nm HL.out.2.1 ⟨ks,rs,HL.out.1⟩ L (fun b=>b≠w.heap.size) _ _ wr (fun d hd=>⟨(nf_wf HL.out.1 (HN.out.1 d hd)).1,by have:=(HN.out.1 d hd).cnt;omega⟩) kA (HN.out.2.2.1.ext HT.out.2.2.2.2.1) (HN.out.2.1.ext HT.out.2.2.2.2.1))
    obtain⟨RT,hRT⟩:∃R,rootP l nm L=R:=⟨_,rfl⟩
    rw[hRT]at HBU hAR hPS
    have HY:=Lh (And.intro hAR (And.intro hPS (And.intro h100 (And.intro hND hL12))))
    clear hAR hPS hTe h100 hND hRT HI hL12
    go_wp2_with fail
    refine HBU.out.mono ?_
    rintro e w5 ⟨⟨k,v,pa,c,kc,vc,pc,cc,rfl,hk,hv,hpa,hc⟩,hX5⟩
    have hz5:=HZ1.out.1.ext (HT.out.2.2.2.1.trans hX5)
    have hXz:Ext w w5:=(HZ1.out.2.1.trans HT.out.2.2.2.1).trans hX5
    have c0:=hz5.c0;have c1:=hz5.c1;have c2:=hz5.c2;have c3:=hz5.c3;have c4:=hz5.c4;have c5:=hz5.c5
    have f0:=hz5.f0;have f1:=hz5.f1;have f2:=hz5.f2;have f3:=hz5.f3;have f4:=hz5.f4;have f5:=hz5.f5
    have HZ5:=Lh hz5
    have hwrs:w.heap.size< wr.heap.size:=Nat.lt_of_lt_of_le HZ1.out.1.lt HT.out.2.2.2.1.size
    have hcv:∀b,(b≠w.heap.size∨wr.heap.size≤b)→b≠w.heap.size:=fun b hb=>by omega
    have HTR:=Lh (And.intro (HT.out.1.ext hX5) (And.intro (hk.ok hcv) (And.intro (hv.ok hcv) (And.intro (hpa.ok hcv) (hc.ok hcv)))))
    have HXZ:=Lh hXz
    clear hz5 hXz hk hv hpa hc hX5 HBU hwrs hcv
    go_wp2_with fail
    (try simp only[Exit.inBlock,Exit.then])
    refine bodyPost_ret (res_ctt rfl _ _ _ ⟨w.heap.size,0,none⟩ ?_ (load_arch HZ5.out L.length RT (.slice k RT.key.length kc) (.slice v RT.vers.length vc) (.slice pa RT.parts.length pc) (.slice c RT.kids.length cc))) rfl ?_
    ·
     rfl
    have hrep:∀(x:Value) (d:DV),Rep w5 (fun b=>b≠w.heap.size) x d→Rep (sar w5 w.heap.size L.length RT (.slice k RT.key.length kc) (.slice v RT.vers.length vc) (.slice pa RT.parts.length pc) (.slice c RT.kids.length cc)) (fun _=>True) x d:=fun x d h=>(h.kept fun b hb _=>sar_block _ _ _ _ _ _ _ _ hb).ok fun _ _=>trivial
    exact⟨⟨true,L.length,RT,k,v,pa,c,ta,kc,vc,pc,cc,T.length,tc,rfl,fun _=>⟨L.length,T,rfl,HY.out.1,HY.out.2.1,hT12,rfl,HY.out.2.2.1,HT.out.2.2.1,hrep _ _ HTR.out.1,hrep _ _ HTR.out.2.1,hrep _ _ HTR.out.2.2.1,hrep _ _ HTR.out.2.2.2.1,hrep _ _ HTR.out.2.2.2.2,HY.out.2.2.2.1⟩⟩,HXZ.out.sar (Nat.le_refl _) _ _ _ _ _ _⟩
theorem sums_any (l:List Rule) (hb:RulesB l) (hll:l.length≤1048576) (docs:List Node) (hcnt:∀d∈docs,cntN d≤1048576) (vl vd:Value) (w:World) (hvl:Rep w (fun _=>True) vl (rulesD l)) (hvd:Rep w (fun _=>True) vd (nodesD docs)) (hmax:∃mx,w.cell? ⟨0,0,none⟩=some (.int .i64 mx)) (l00:0< w.heap.size):
  Calls Tryz.prog 4 #[vl,vd] w fun e w'=>e= .returned (.bool true)∧Ext w w':=
 sums_walk l docs vl vd w hvl (fun W hE=>made2_any l hb hll docs hcnt (fun _=>True) vl vd W (hvl.ext hE) (hvd.ext hE)) hmax l00
end Go.Proofs.YtngmgjodcnknoaaGreatDoor
