/-
 keys:key,rule,May. Helper lemmas;no statement of the seat is proved here.
-/
import Derived.Test.YtcfibjiikhnfhaaGreatDoorU10
import Derived.Deep.DeepCutAuto
namespace Go.Proofs.YtcfibjiikhnfhaaGreatDoor
open Go.RowKit
set_option maxHeartbeats 32000000
set_option maxRecDepth 100000
set_option linter.unusedVariables false
set_option linter.unusedSimpArgs false
def noName (l:List Bytes):Bool:=l.any fun x=> !nameE x
theorem keyF_any (x:Bytes) (hx:x.length≤16777216) (w:World) (hT:∀W,Ext w W→Tabs W):
  Calls Tryz.prog 116 #[.string (bs x)] w fun e w'=>e= .returned (.bool (!nameE x))∧Ext w w':=by
 have HC:=Lh (name_any x hx w hT)
 obtain⟨b,hb⟩:∃b,nameE x=b:=⟨_,rfl⟩
 rw[hb]at HC⊢
 clear hb
 go_enter Tryz.func116,Tryz.ntmps116
 go_wp2_with fail
 refine HC.out.mono ?_
 rintro e w1 ⟨rfl,hX⟩
 go_wp2_with fail
 go_ret
 exact⟨rfl,hX⟩
theorem idxN_any (l:List Bytes) (hl:l.length≤16777216) (hb:∀x∈l,x.length≤16777216) (p:Nat→Prop) (v:Value) (w:World) (hT:∀W,Ext w W→Tabs W) (h:Rep w p v (strsD l)):
  Calls Tryz.prog 162 #[v,.func (.func 116) #[] #[]] w fun e w'=>(∃r:Int,e= .returned (.int .i64 r)∧decide (0≤r)=noName l)∧Ext w w':=by
 obtain⟨a,c,rfl,hc1,hc2⟩:=h.count z_str (by omega)
 obtain⟨R,hR⟩:∃R,noName l=R:=⟨_,rfl⟩
 rw[hR]
 have HR:=Lh hR
 have HT:=Lh hT
 have HB:=Lh hb
 clear hR hT hb
 go_enter Tryz.func162,Tryz.ntmps162
 go_wp2_with fail
 go_loopw [5,8] (fun _ t wr=>∃i:Nat,t= .int .i64 i∧i≤l.length∧Ext w wr∧Hid (noName (l.drop i)=R)) (fun _ t _=>downV l.length t)
 case atStart=>exact⟨0,rfl,Nat.zero_le _,Ext.refl _,HR⟩
 case round=>
  obtain⟨i,rfl,hi,hX,HI⟩:=hrel
  have hi0:(0:Int)≤(i:Int):=by omega
  by_cases hlt:i< l.length
  ·
   have hlI:(i:Int)< (l.length:Int):=by omega
   obtain⟨g,o,rfl,lg,_,hc⟩:=str_at (h.ext hX) i hlt
   have hbx:=HB.out _ (List.getElem_mem hlt)
   have HS:Hid (noName (l.drop i)=(!nameE l[i] || noName (l.drop (i+1)))):=Lh (by rw[drop_one l i hlt];rfl)
   obtain⟨x,hx⟩:∃x,l[i]=x:=⟨_,rfl⟩
   rw[hx]at hc hbx HS
   have HC:=Lh (keyF_any x hbx wr fun W hE=>HT.out W (hX.trans hE))
   obtain⟨b,hb⟩:∃b,nameE x=b:=⟨_,rfl⟩
   rw[hb]at HC HS
   have HX:=Lh hX
   clear hx hb hX
   cases b with
   | false=>
    obtain rfl:true=R:=by rw[←HI.out,HS.out];rfl
    go_wp2_with fail
    refine HC.out.mono ?_
    rintro e w1 ⟨rfl,hX1⟩
    go_wp2_with fail
    go_ret
    exact⟨⟨_,rfl,by rw[decide_eq_true hi0]⟩,HX.out.trans hX1⟩
   | true=>
    have HN:Hid (noName (l.drop (i+1))=R):=Lh (by rw[←HI.out,HS.out];rfl)
    clear HI HS
    go_wp2_with fail
    refine HC.out.mono ?_
    rintro e w1 ⟨rfl,hX1⟩
    go_wp2_with fail
    go_roundw
    case rel=>exact⟨i+1,by go_num,by omega,HX.out.trans hX1,HN⟩
    case measure=>simp only[downV];omega
  ·
   have hlI:¬(i:Int)< (l.length:Int):=by omega
   obtain rfl:false=R:=by rw[←HI.out,List.drop_of_length_le (by omega)];rfl
   clear HI
   go_wp2_with fail
   go_ret
   exact⟨⟨_,rfl,by decide⟩,hX⟩
theorem contN_any (l:List Bytes) (hl:l.length≤16777216) (hb:∀x∈l,x.length≤16777216) (p:Nat→Prop) (v:Value) (w:World) (hT:∀W,Ext w W→Tabs W) (h:Rep w p v (strsD l)):
  Calls Tryz.prog 115 #[v,.func (.func 116) #[] #[]] w fun e w'=>e= .returned (.bool (noName l))∧Ext w w':=by
 have HC:=Lh (idxN_any l hl hb p v w hT h)
 obtain⟨R,hR⟩:∃R,noName l=R:=⟨_,rfl⟩
 rw[hR]at HC⊢
 clear hR
 go_enter Tryz.func115,Tryz.ntmps115
 go_wp2_with fail
 refine HC.out.mono ?_
 rintro e w1 ⟨⟨r,rfl,hr⟩,hX⟩
 clear HC
 by_cases h0:0≤r
 ·
  obtain rfl:true=R:=by rw[←hr,decide_eq_true h0]
  clear hr
  go_wp2_with fail
  go_ret
  exact⟨ret_bool (by first | rfl | exact decide_eq_true h0),hX⟩
 ·
  obtain rfl:false=R:=by rw[←hr,decide_eq_false h0]
  clear hr
  go_wp2_with fail
  go_ret
  exact⟨ret_bool (by first | rfl | exact decide_eq_false (by omega)),hX⟩
def cutP (c:Bytes):Bytes:=if c.getD 0 0=64 then c.drop 1 else c
def lastCut (l:List Bytes):List Bytes:=l.set (l.length - 1) (cutP (l.getD (l.length - 1) []))
def keyE (s:Bytes):Bool:=if s= [46]then true else !noName (lastCut (splitS 47 [] s))
theorem cutP_any (c:Bytes) (w:World):Calls Tryz.prog 114 #[.string (bs c),.string (bs [64])] w fun e w'=>e= .returned (.string (bs (cutP c)))∧w'=w:=by
 have h:=Tryz.strings_TrimPrefix (bs c) (bs [64]) w
 have e:Lib.hasPrefix (bs c).data.toList (bs [64]).data.toList=decide (c.getD 0 0=64):=by
  show([64]:List UInt8).isPrefixOf c=_
  cases c with
  | nil=>rfl
  | cons a r=>
   show((64:UInt8)==a && true)=decide (a=64)
   by_cases ha:a=64
   ·
    subst ha;rfl
   ·
    rw[decide_eq_false ha,Bool.and_true,beq_eq_false_iff_ne];exact fun e=>ha e.symm
 have e2:Lib.trimPrefix (bs c).data.toList (bs [64]).data.toList=cutP c:=by
  unfold Lib.trimPrefix cutP
  rw[e]
  by_cases h:c.getD 0 0=64
  ·
   rw[decide_eq_true h,if_pos rfl,if_pos h];rfl
  ·
   rw[decide_eq_false h,if_neg h];rfl
 rw[e2]at h
 exact h
theorem rep_set_strs {w:World} {p:Nat→Prop} {b c:Nat} {l:List Bytes} (h:Rep w p (.slice (some ⟨b,0,none⟩) l.length c) (strsD l)) (hc1:l.length≤c) (hc2:c≤9223372036854775807) (i:Nat) (hi:i< l.length) (x:Bytes) (hx:∀y∈l.set i x,y.length≤9223372036854775807):
  Rep (w.setCell ⟨b,i,none⟩ (.string (bs x))) p (.slice (some ⟨b,0,none⟩) l.length c) (strsD (l.set i x)):=by
 have hall:∀j (hj:j< l.length),b< w.heap.size∧p b∧w.cell? ⟨b,j,none⟩=some (.string (bs l[j])):=fun j hj=>by
  obtain⟨g,o,e,h1,h2,h3⟩:=str_at h j hj
  cases e
  rw[Nat.zero_add]at h3
  exact⟨h1,h2,h3⟩
 have hfl:(l.set i x).flatMap (fun x=> [strD x])=(l.set i x).map strD:=by
  generalize l.set i x=m
  induction m with
  | nil=>rfl
  | cons a r ih=>rw[List.flatMap_cons,ih];rfl
 unfold strsD
 rw[hfl]
 refine .row b 0 l.length c 1 (((l.set i x).map bs).map Value.string) ((l.set i x).map strD) (fun _=>(hall i hi).2.1) (by simp) (by simp) hc1 hc2 (fun k u hk=> ?_) (fun k u e hk he=> ?_)
 ·
  rw[List.map_map,List.getElem?_map]at hk
  rw[Nat.zero_add]
  by_cases hki:k< l.length
  ·
   rw[List.getElem?_eq_getElem (by simpa using hki)]at hk
   cases hk
   by_cases e:i=k
   ·
    subst e
    rw[World.cell?_setCell_same _ _ _ (hall i hi).2.2]
    simp
   ·
    rw[World.cell?_setCell_other _ _ _ _ (by intro e2;cases e2;exact e rfl),(hall k hki).2.2]
    simp[List.getElem_set_ne e]
  ·
   rw[List.getElem?_eq_none (by simpa using hki)]at hk
   cases hk
 ·
  rw[List.getElem?_map]at he
  rw[List.map_map,List.getElem?_map]at hk
  cases hy:(l.set i x)[k]? with
  | none=>rw[hy]at hk;cases hk
  | some y=>
   rw[hy]at hk he
   cases hk;cases he
   exact Rep.string _ _ _ (by rw[bs_size];exact hx y (List.mem_of_getElem? hy))
theorem splitW_any (s:Bytes) (w:World) (hs:s.length≤1048576) (hm:MaxV w):
  Calls Tryz.prog 113 #[.string (bs s),.string (bs [47])] w fun e w'=>∃b,e= .returned (.slice (some ⟨b,0,none⟩) (splitS 47 [] s).length (splitS 47 [] s).length)∧b=w.heap.size∧Rep w' (fun b=>w.heap.size≤b) (.slice (some ⟨b,0,none⟩) (splitS 47 [] s).length (splitS 47 [] s).length) (strsD (splitS 47 [] s))∧(∀i,w'.frozen? ⟨b,i,none⟩=false)∧Ext w w':=by
 obtain⟨m,hm⟩:=hm
 have h:=Any.strings_Split {Tryz.laysM146 with} infoStr (bs s) (bs [47]) m w (by rw[bs_size];omega) hm (by rw[bs_size];simp)
 rw[splitB_S]at h
 have hc:=splitS_cnt 47 s
 rw[←hc]at h
 refine h.mono fun e w' ⟨he,hw⟩=> ?_
 subst hw
 exact⟨_,he,rfl,rep_new_strs _ w _ (Nat.le_refl _) (fun x hx=>by have:=splitS_mem 47 s [] x hx;simp at this;omega) (by have:=splitS_lenle 47 s [];omega),fun i=>by simp[go_sem],(Ext.refl w).alloc _⟩
theorem splitS_pos (c:UInt8):∀(s cur:Bytes),0< (splitS c cur s).length
 | [],cur=>by simp[splitS]
 | b::r,cur=>by
  unfold splitS
  split
  ·
   simp
  ·
   exact splitS_pos c r _
theorem keyK_any (s:Bytes) (hs:s.length≤1048576) (w:World) (hT:∀W,Ext w W→Tabs W) (hm:MaxV w):
  Calls Tryz.prog 72 #[.string (bs s)] w fun e w'=>e= .returned (.bool (keyE s))∧Ext w w':=by
 have HM:=Lh hm
 have HT:=Lh hT
 clear hm hT
 go_enter Tryz.func72,Tryz.ntmps72
 by_cases h46:s= [46]
 ·
  subst h46
  have q1:((bs [46]).toList==([46]:List UInt8))=true:=by rw[bs_toList];rfl
  go_wp2_with fail
  go_ret
  exact⟨rfl,Ext.refl _⟩
 ·
  have q1:((bs s).toList==([46]:List UInt8))=false:=by rw[bs_toList,beq_eq_false_iff_ne];exact h46
  obtain⟨R,hR⟩:∃R,keyE s=R:=⟨_,rfl⟩
  rw[hR]
  unfold keyE at hR
  rw[if_neg h46]at hR
  have HS:=Lh (splitW_any s w hs HM.out)
  have hmem:∀x∈splitS 47 [] s,x.length≤1048576:=fun x hx=>by have:=splitS_mem 47 s [] x hx;simp at this;omega
  have hlen:=splitS_lenle 47 s []
  have hpos:=splitS_pos 47 s []
  obtain⟨L,hL⟩:∃L,splitS 47 [] s=L:=⟨_,rfl⟩
  rw[hL]at HS hR hmem hlen hpos
  obtain⟨N,hN⟩:∃N,L.length=N+1:=⟨L.length - 1,by omega⟩
  have hNb:N< L.length:=by omega
  have hget:L.getD N []=L[N]'hNb:=by rw[List.getD_eq_getElem?_getD,List.getElem?_eq_getElem hNb];rfl
  have HR:Hid ((!noName (lastCut L))=R):=Lh hR
  have hlc:lastCut L=L.set N (cutP (L.getD N [])):=by unfold lastCut;rw[show L.length - 1=N by omega]
  have HB:Hid (∀y∈lastCut L,y.length≤1048576):=Lh fun y hy=>by
   rw[hlc]at hy
   rcases List.mem_or_eq_of_mem_set hy with hy | rfl
   ·
    exact hmem y hy
   ·
    have:=hmem (L.getD N []) (by rw[hget];exact List.getElem_mem _)
    unfold cutP;split
    ·
     rw[List.length_drop];omega
    ·
     exact this
  have hNI:(L.length:Int) - 1=(N:Int):=by omega
  have hNW:IntKind.i64.wrap (N:Int)=(N:Int):=by rw[IntKind.wrap_i64];omega
  have hN0:(0:Int)≤(N:Int):=by omega
  have hNL:(N:Int)< (L.length:Int):=by omega
  have HL:=Lh (And.intro hlc (And.intro hlen hget))
  clear hL hR hmem hlen hget hlc hpos h46 hN
  go_wp2_with fail
  refine HS.out.mono ?_
  rintro e w1 ⟨b,rfl,hb,hrep,hfr,hX⟩
  obtain⟨g,o,eg,lb,_,c0⟩:=str_at hrep N hNb
  cases eg
  have f0:=hfr N
  rw[Nat.zero_add]at c0
  rw[←HL.out.2.2]at c0
  obtain⟨x,hx⟩:∃x,L.getD N []=x:=⟨_,rfl⟩
  rw[hx]at c0
  have HC:=Lh fun W=>cutP_any x W
  have HX:=Lh (And.intro hX (And.intro hx (And.intro hb hrep)))
  clear hx HS hfr hb hrep hX
  go_wp2_with fail
  refine(HC.out _).mono ?_
  rintro e w2 ⟨rfl,rfl⟩
  obtain⟨W3,hW3⟩:∃W,w2.setCell ⟨b,N,none⟩ (.string (bs (cutP x)))=W:=⟨_,rfl⟩
  have HW:=Lh hW3
  clear HC
  have hrep3:Rep W3 (fun b=>w.heap.size≤b) (.slice (some ⟨b,0,none⟩) L.length L.length) (strsD (lastCut L)):=by
   rw[←hW3,HL.out.1,HX.out.2.1]
   exact rep_set_strs HX.out.2.2.2 (Nat.le_refl _) (by have:=HL.out.2.1;omega) N hNb _ fun y hy=>by
    have:=HB.out y (by rw[HL.out.1,HX.out.2.1];exact hy);omega
  have hX3:Ext w W3:=by rw[←hW3];exact HX.out.1.set (p:=⟨b,N,none⟩) (by have:=HX.out.2.2.1;omega) _
  have hll:(lastCut L).length=L.length:=by rw[HL.out.1,List.length_set]
  have HK:=Lh (contN_any (lastCut L) (by rw[hll];have:=HL.out.2.1;omega) (fun y hy=>by have:=HB.out y hy;omega) _ _ W3 (fun W hE=>HT.out W (hX3.trans hE)) hrep3)
  have HX3:=Lh hX3
  clear hrep3 hX3 hll HX HM HT HB HL
  go_wp2_with fail
  refine HK.out.mono ?_
  rintro e w4 ⟨rfl,hX4⟩
  obtain⟨B,hB⟩:∃B,noName (lastCut L)=B:=⟨_,rfl⟩
  have HR2:=HR.out
  rw[hB]at HR2⊢
  subst HR2
  clear HR HW hW3 c0 f0
  go_wp2_with fail
  go_ret
  exact⟨rfl,HX3.out.trans hX4⟩
def ruleE (r:Rule):Bool:=if r.path= []∨(r.path.length=1∧r.keys≠ [])∨twG [] r.keys=true then false else !noName r.path && r.keys.all keyE
theorem ruleK_any (P K:List Bytes) (hP:P.length≤16777216) (hK:K.length≤16777216) (hPb:∀x∈P,x.length≤1048576) (hKb:∀x∈K,x.length≤1048576) (p:Nat→Prop) (vp vk:Value) (w:World)
  (hT:∀W,Ext w W→Tabs W) (hm:MaxV w) (h1:Rep w p vp (strsD P)) (h2:Rep w p vk (strsD K)):
  Calls Tryz.prog 33 #[.agg #[vp,vk]] w fun e w'=>e= .returned (.bool (ruleE ⟨P,K⟩))∧Ext w w':=by
 obtain⟨pa,pc,rfl,_,_⟩:=h1.count z_str (by omega)
 obtain⟨ka,kc,rfl,_,_⟩:=h2.count z_str (by omega)
 obtain⟨pl,hpl⟩:∃n,P.length=n:=⟨_,rfl⟩
 obtain⟨kl,hkl⟩:∃n,K.length=n:=⟨_,rfl⟩
 rw[hpl]at h1⊢
 rw[hkl]at h2⊢
 have hP2:pl≤16777216:=by omega
 have hK2:kl≤16777216:=by omega
 have HPL:=Lh hpl
 have HKL:=Lh hkl
 obtain⟨kI,hkI⟩:∃z:Int,(kl:Int)=z:=⟨_,rfl⟩
 have HKI:=Lh hkI
 obtain⟨R,hR⟩:∃R,ruleE ⟨P,K⟩=R:=⟨_,rfl⟩
 rw[hR]
 have HR:Hid ((if P= []∨(P.length=1∧K≠ [])∨twG [] K=true then false else !noName P && K.all keyE)=R):=Lh hR
 have HM:=Lh hm
 have HT:=Lh hT
 have HB:=Lh (And.intro hPb hKb)
 obtain⟨w1,hw1⟩:∃W,w.alloc (.cells #[.slice pa pl pc,.slice ka kl kc] 53)=W:=⟨_,rfl⟩
 obtain⟨g,hg⟩:∃g,w.heap.size=g:=⟨_,rfl⟩
 have hE1:Ext w w1:=by rw[←hw1];exact(Ext.refl w).alloc _
 have lg:g< w1.heap.size:=by rw[←hw1,←hg];simp
 have c0:w1.cell? ⟨g,0,none⟩=some (.slice pa pl pc):=by rw[←hw1,←hg];simp[go_sem]
 have c1:w1.cell? ⟨g,1,none⟩=some (.slice ka kl kc):=by rw[←hw1,←hg];simp[go_sem]
 have HW:=Lh (And.intro hw1 hg)
 have HE1:=Lh hE1
 have HTW:=Lh (twice_any K p _ w1 hK (h2.ext hE1))
 obtain⟨tw,htw⟩:∃b,twG [] K=b:=⟨_,rfl⟩
 rw[htw]at HTW HR
 clear hR hm hT hPb hKb hw1 hg hE1 htw hpl hkl hP hK
 go_enter Tryz.func33,Tryz.ntmps33
 go_upto_region 1 with fail
 rw[HW.out.1,HW.out.2]
 by_cases hp0:pl=0
 ·
  obtain rfl:false=R:=by rw[←HR.out,if_pos (.inl (List.eq_nil_of_length_eq_zero (by rw[HPL.out];exact hp0)))]
  have q0:((pl:Int)==0)=true:=by rw[hp0];rfl
  clear hp0
  go_wp2_with fail
  go_ret
  exact⟨rfl,HE1.out⟩
 ·
  have q0:((pl:Int)==0)=false:=by rw[beq_eq_false_iff_ne];omega
  by_cases hp1:pl=1∧0< kl
  ·
   have q1:((pl:Int)==1)=true:=by rw[hp1.1];rfl
   have q2I:(0:Int)< kI:=by omega
   obtain rfl:false=R:=by rw[←HR.out,if_pos (.inr (.inl ⟨by rw[HPL.out];exact hp1.1,fun e=>by have:=HKL.out;rw[e]at this;simp at this;omega⟩))]
   clear hp1 hp0
   go_wp2_with fail
   go_ret
   exact⟨rfl,HE1.out⟩
  ·
   have HR2:Hid ((if tw=true then false else !noName P && K.all keyE)=R):=Lh (by
    rw[←HR.out]
    cases tw
    ·
     rw[if_neg (by simp),if_neg]
     rintro(h | h | h)
     ·
      exact hp0 (by have:=HPL.out;rw[h]at this;exact this.symm)
     ·
      exact hp1 ⟨by have:=HPL.out;omega,by have:=HKL.out;have:=List.length_pos_iff.2 h.2;omega⟩
     ·
      cases h
    ·
     rw[if_pos rfl,if_pos (by simp)])
   have hq2:(((pl:Int)==1)=true∧¬(0:Int)< kI)∨((pl:Int)==1)=false:=by
    by_cases h:pl=1
    ·
     exact .inl ⟨by rw[h];rfl,by omega⟩
    ·
     exact .inr (by rw[beq_eq_false_iff_ne];omega)
   clear HR hp1 hp0
   cases tw with
   | true=>
    obtain rfl:false=R:=by rw[←HR2.out];rfl
    rcases hq2 with⟨q1,q2⟩ | q1
    all_goals (
     go_wp2_with fail
     refine HTW.out.mono ?_
     rintro e w2 ⟨rfl,hX2⟩
     go_wp2_with fail
     go_ret
     exact⟨rfl,HE1.out.trans hX2⟩)
   | false=>
    have HR3:Hid ((!noName P && K.all keyE)=R):=Lh (by rw[←HR2.out];rfl)
    clear HR2
    rcases hq2 with⟨q1,q2⟩ | q1
    all_goals (
     go_wp2_with fail
     refine HTW.out.mono ?_
     rintro e w2 ⟨rfl,hX2⟩
     have HX2:=Lh hX2
     have c2:=hX2.keep lg c0
     have c3:=hX2.keep lg c1
     clear HTW q0 q1 hX2 c0 c1
     try clear q2
     have hX2':=HX2.out
     have HEO:=Lh (HE1.out.trans hX2')
     have HE:=Lh (HE1.out.trans hX2')
     go_wp2_with fail
     go_loopw [4,31] (fun _ t wr=>∃i:Nat,t= .int .i64 i∧i≤pl∧Ext w2 wr∧Hid ((!noName (P.drop i) && K.all keyE)=R)) (fun _ t _=>downV pl t)
     case atStart=>exact⟨0,rfl,Nat.zero_le _,Ext.refl _,HR3⟩
     case round=>
      obtain⟨i,rfl,hi,hX,HI⟩:=hrel
      have hi0:(0:Int)≤(i:Int):=by omega
      by_cases hlt:i< pl
      ·
       have hlI:(i:Int)< (pl:Int):=by omega
       have hlt':i< P.length:=by rw[HPL.out];exact hlt
       obtain⟨gs,os,rfl,lgs,_,hc⟩:=str_at (h1.ext (HE.out.trans hX)) i hlt'
       have hbx:=HB.out.1 _ (List.getElem_mem hlt')
       have HS:Hid ((!noName (P.drop i) && K.all keyE)=(nameE P[i] && (!noName (P.drop (i+1)) && K.all keyE))):=Lh (by rw[drop_one P i hlt'];show(!(!nameE P[i] || noName (P.drop (i+1))) && K.all keyE)=_;cases nameE P[i]<;> simp)
       obtain⟨x,hx⟩:∃x,P[i]=x:=⟨_,rfl⟩
       rw[hx]at hc hbx HS
       have HC:=Lh (name_any x (by omega) wr (fun W hE=>HT.out W (HEO.out.trans (hX.trans hE))))
       obtain⟨b,hb⟩:∃b,nameE x=b:=⟨_,rfl⟩
       rw[hb]at HC HS
       have HX:=Lh hX
       clear hx hb hX hlt'
       cases b with
       | false=>
        obtain rfl:false=R:=by rw[←HI.out,HS.out];rfl
        go_wp2_with fail
        refine HC.out.mono ?_
        rintro e w4 ⟨rfl,hX4⟩
        go_wp2_with fail
        go_ret
        exact⟨rfl,HEO.out.trans (HX.out.trans hX4)⟩
       | true=>
        have HN:Hid ((!noName (P.drop (i+1)) && K.all keyE)=R):=Lh (by rw[←HI.out,HS.out];rfl)
        clear HI HS
        go_wp2_with fail
        refine HC.out.mono ?_
        rintro e w4 ⟨rfl,hX4⟩
        go_wp2_with fail
        go_roundw
        case rel=>exact⟨i+1,by go_num,by omega,HX.out.trans hX4,HN⟩
        case measure=>simp only[downV];omega
      ·
       have hlI:¬(i:Int)< (pl:Int):=by omega
       have HL:Hid (K.all keyE=R):=Lh (by rw[←HI.out,List.drop_of_length_le (by rw[HPL.out];omega)];rfl)
       clear HI
       obtain⟨wo,hwo⟩:∃wo,wo=wr:=⟨_,rfl⟩
       subst hwo
       have c4:=hX.keep (Nat.lt_of_lt_of_le lg hX2'.size) c3
       have HEO2:=Lh (HEO.out.trans hX)
       have HE2:=Lh (HE.out.trans hX)
       clear c2 c3 hX hlt hi hi0 HEO HE
       go_wp2_with fail
       clear hlI
       go_loopw [6,42] (fun _ t wr=>∃i:Nat,t= .int .i64 i∧i≤kl∧Ext wo wr∧Hid (((K.drop i).all keyE)=R)) (fun _ t _=>downV kl t)
       case atStart=>exact⟨0,rfl,Nat.zero_le _,Ext.refl _,HL⟩
       case round=>
        obtain⟨i,rfl,hi,hX,HI⟩:=hrel
        have hi0:(0:Int)≤(i:Int):=by omega
        have hkI:=HKI.out
        by_cases hlt:i< kl
        ·
         have hlI:(i:Int)< kI:=by omega
         have hlt':i< K.length:=by rw[HKL.out];exact hlt
         obtain⟨gs,os,rfl,lgs,_,hc⟩:=str_at (h2.ext (HE2.out.trans hX)) i hlt'
         have hbx:=HB.out.2 _ (List.getElem_mem hlt')
         have HS:Hid (((K.drop i).all keyE)=(keyE K[i] && (K.drop (i+1)).all keyE)):=Lh (by rw[drop_one K i hlt'];rfl)
         obtain⟨x,hx⟩:∃x,K[i]=x:=⟨_,rfl⟩
         rw[hx]at hc hbx HS
         have HC:=Lh (keyK_any x hbx wr (fun W hE=>HT.out W (HEO2.out.trans (hX.trans hE))) (HM.out.ext (HEO2.out.trans hX)))
         obtain⟨b,hb⟩:∃b,keyE x=b:=⟨_,rfl⟩
         rw[hb]at HC HS
         have HX:=Lh hX
         clear hx hb hX hlt'
         cases b with
         | false=>
          obtain rfl:false=R:=by rw[←HI.out,HS.out];rfl
          go_wp2_with fail
          refine HC.out.mono ?_
          rintro e w4 ⟨rfl,hX4⟩
          go_wp2_with fail
          go_ret
          exact⟨rfl,HEO2.out.trans (HX.out.trans hX4)⟩
         | true=>
          have HN:Hid (((K.drop (i+1)).all keyE)=R):=Lh (by rw[←HI.out,HS.out];rfl)
          clear HI HS
          go_wp2_with fail
          refine HC.out.mono ?_
          rintro e w4 ⟨rfl,hX4⟩
          go_wp2_with fail
          go_roundw
          case rel=>exact⟨i+1,by go_num,by omega,HX.out.trans hX4,HN⟩
          case measure=>simp only[downV];omega
        ·
         have hlI:¬(i:Int)< kI:=by omega
         have HL:Hid (true=R):=Lh (by rw[←HI.out,List.drop_of_length_le (by rw[HKL.out];omega)];rfl)
         clear HI
         obtain rfl:true=R:=HL.out
         clear HL
         go_wp2_with fail
         go_ret
         exact⟨rfl,HEO2.out.trans hX⟩)
def mayI (l:List Rule) (i:Nat):Bool:=(List.range' i (l.length - i)).all fun j=>ruleE (l.getD j noRule) && placedS (l.take j) (l.getD j noRule)
def mayP (l:List Rule):Bool:=if 1≤l.length∧l.length≤64 then mayI l 0 else false
theorem mayI_step (l:List Rule) (i:Nat) (hi:i< l.length):mayI l i=(ruleE l[i] && placedS (l.take i) l[i] && mayI l (i+1)):=by
 unfold mayI
 rw[show l.length - i=(l.length - (i+1))+1 by omega,List.range'_succ,List.all_cons,List.getD_eq_getElem?_getD,List.getElem?_eq_getElem hi];rfl
theorem mayI_end (l:List Rule) (i:Nat) (hi:¬i< l.length):mayI l i=true:=by
 unfold mayI
 rw[show l.length - i=0 by omega];rfl
theorem ruleE_ne {r:Rule} (h:ruleE r=true):r.path≠ []:=by
 intro e;unfold ruleE at h;rw[if_pos (.inl e)]at h;cases h
theorem mayK_any (l:List Rule) (hb:∀r∈l,r.path.length≤1048576∧r.keys.length≤1048576∧(∀x∈r.path,x.length≤1048576)∧∀x∈r.keys,x.length≤1048576) (hll:l.length≤1048576) (p:Nat→Prop) (v:Value) (w:World)
  (hT:∀W,Ext w W→Tabs W) (hm:MaxV w) (h:Rep w p v (rulesD l)):
  Calls Tryz.prog 18 #[v] w fun e w'=>e= .returned (.bool (mayP l))∧Ext w w':=by
 obtain⟨a,c,rfl,hc1,hc2⟩:=h.count z_rule (by omega)
 have HB:=Lh hb
 have HT0:=Lh hT
 have HM:=Lh hm
 obtain⟨R,hR⟩:∃R,mayP l=R:=⟨_,rfl⟩
 rw[hR]
 unfold mayP at hR
 have HR0:=Lh hR
 clear hb hT hm hR
 go_enter Tryz.func18,Tryz.ntmps18
 by_cases h1:1≤l.length
 ·
  have h1I:¬(l.length:Int)< 1:=by omega
  by_cases h2:l.length≤64
  ·
   have h2I:¬(64:Int)< (l.length:Int):=by omega
   have HR:Hid (mayI l 0=R):=Lh (by rw[←HR0.out,if_pos ⟨h1,h2⟩])
   clear HR0 h1
   go_wp2_with fail
   go_loopw [3,15] (fun _ t wr=>∃i:Nat,t= .int .i64 i∧i≤l.length∧Ext w wr∧Hid (mayI l i=R)) (fun _ t _=>downV l.length t)
   case atStart=>exact⟨0,rfl,Nat.zero_le _,Ext.refl _,HR⟩
   case round=>
    obtain⟨i,rfl,hi,hX,HI⟩:=hrel
    have hi0:(0:Int)≤(i:Int):=by omega
    by_cases hlt:i< l.length
    ·
     have hlI:(i:Int)< (l.length:Int):=by omega
     obtain⟨g,o,xp,xk,rfl,lg,_,e0,e1,hrp,hrk⟩:=rule_at (h.ext hX) i hlt
     have hbi:=HB.out _ (List.getElem_mem hlt)
     have hic:i≤c:=by omega
     have hicI:(i:Int)≤(c:Int):=by omega
     have hsub:Rep wr p (.slice (some ⟨g,o,none⟩) i c) (rulesD (l.take i)):=by
      have:=(h.ext hX).take i (by omega)
      rw[flat_take _ 2 z_rule]at this;exact this
     have HT:=Lh (mayI_step l i hlt)
     obtain⟨x,hx⟩:∃x,l[i]=x:=⟨_,rfl⟩
     rw[hx]at hrp hrk hbi HT
     obtain⟨xpa,xpc,rfl,_,_⟩:=hrp.count z_str (by omega)
     obtain⟨xka,xkc,rfl,_,_⟩:=hrk.count z_str (by omega)
     obtain⟨wz,hwz⟩:∃W,wr.alloc (.cells #[.slice xpa x.path.length xpc,.slice xka x.keys.length xkc] 53)=W:=⟨_,rfl⟩
     obtain⟨g5,hg5⟩:∃g,wr.heap.size=g:=⟨_,rfl⟩
     have hEz:Ext wr wz:=by rw[←hwz];exact(Ext.refl wr).alloc _
     have l5:g5< wz.heap.size:=by rw[←hwz,←hg5];simp
     have c0:wz.cell? ⟨g5,0,none⟩=some (.slice xpa x.path.length xpc):=by rw[←hwz,←hg5];simp[go_sem]
     have c1:wz.cell? ⟨g5,1,none⟩=some (.slice xka x.keys.length xkc):=by rw[←hwz,←hg5];simp[go_sem]
     have HR:=Lh fun W (hE:Ext wz W)=>ruleK_any x.path x.keys (by omega) (by omega) hbi.2.2.1 hbi.2.2.2 p _ _ W (fun W' hE'=>HT0.out W' (hX.trans (hEz.trans (hE.trans hE')))) (HM.out.ext (hX.trans (hEz.trans hE))) (hrp.ext (hEz.trans hE)) (hrk.ext (hEz.trans hE))
     have HPL:=Lh fun W (hE:Ext wz W) (hne:x.path≠ [])=>placed_any p p (l.take i) x _ _ (.slice xka x.keys.length xkc) W (fun r hr=>by have:=HB.out r (List.mem_of_mem_take hr);omega) hne (hsub.ext (hEz.trans hE)) (hrp.ext (hEz.trans hE)) (hrk.ext (hEz.trans hE))
     obtain⟨PB,hPB⟩:∃b,placedS (l.take i) x=b:=⟨_,rfl⟩
     obtain⟨rb,hrb⟩:∃b,ruleE x=b:=⟨_,rfl⟩
     have HRN:Hid (rb=true→x.path≠ []):=Lh fun e=>ruleE_ne (hrb.trans e)
     change Hid (∀W,Ext wz W→Calls _ _ _ W fun e w'=>e= .returned (.bool (ruleE x))∧Ext W w')at HR
     rw[hPB]at HPL HT
     rw[hrb]at HR HT
     have HW:=Lh (And.intro hwz hg5)
     have HX:=Lh (hX.trans hEz)
     have HIl:=Lh hlt
     clear hx hrp hrk hbi hsub hPB hrb hwz hg5 hEz hX
     go_upto_region 6 with fail
     rw[HW.out.1,HW.out.2]
     clear e0 e1
     refine rg_begin (S:=Sx wz) (by kernel_rfl) (Sx.begin _) ?_
     have hS:Sx wz (World.drew wz):=(Sx.begin _)
     refine rg_t 0 (some 20) (.agg #[.slice xpa x.path.length xpc,.slice xka x.keys.length xkc]) rfl hS (fun w' hs=>by(have h0:=hs.cell l5 c0;have h1:=hs.cell l5 c1;go_simp)) ?_
     simp only[Act.put,sA,sZ,sS]
     refine rg_call 1 (some 21) 33 #[.agg #[.slice xpa x.path.length xpc,.slice xka x.keys.length xkc]] rfl rfl (by kernel_rfl) (by rfl) (fun w'=>by first | rfl | go_simp) (R:=fun v w'=>v= .bool rb∧Ext (World.drew wz) w') ?_ ?_
     ·
      refine(HR.out (World.drew wz) hS).mono ?_
      rintro e w' ⟨rfl,h⟩
      exact⟨_,rfl,rfl,h⟩
     rintro _ wr1 ⟨rfl,hBr1⟩
     have hS1:=hS.ext hBr1
     refine⟨hS1,?_⟩
     simp only[Act.put,sA,sZ,sS]
     cases rb with
     | true=>
      have HRB:=Lh (HRN.out rfl)
      refine rg_t 2 (some 22) (.bool false) rfl hS1 (fun w' hs=>by first | rfl | go_simp) ?_
      simp only[Act.put,sA,sZ,sS]
      refine rg_t 3 (some 23) (.bool false) rfl hS1 (fun w' hs=>by rfl) ?_
      simp only[Act.put,sA,sZ,sS]
      refine rg_t 4 (some 24) (.slice (some ⟨g,o,none⟩) l.length c) rfl hS1 (fun w' hs=>by rfl) ?_
      simp only[Act.put,sA,sZ,sS]
      refine rg_t 5 (some 25) (.int .i64 i) rfl hS1 (fun w' hs=>by rfl) ?_
      simp only[Act.put,sA,sZ,sS]
      refine rg_t 6 (some 26) (.slice (some ⟨g,o,none⟩) i c) rfl hS1 (fun w' hs=>by first | rfl | go_simp) ?_
      simp only[Act.put,sA,sZ,sS]
      refine rg_t 7 (some 27) (.agg #[.slice xpa x.path.length xpc,.slice xka x.keys.length xkc]) rfl hS1 (fun w' hs=>by(have h0:=hs.cell l5 c0;have h1:=hs.cell l5 c1;go_simp)) ?_
      simp only[Act.put,sA,sZ,sS]
      refine rg_call 8 (some 28) 34 #[.slice (some ⟨g,o,none⟩) i c,.agg #[.slice xpa x.path.length xpc,.slice xka x.keys.length xkc]] rfl rfl (by kernel_rfl) (by rfl) (fun w'=>by first | rfl | go_simp) (R:=fun v w'=>v= .bool PB∧Ext wr1 w') ?_ ?_
      ·
       refine(HPL.out wr1 hS1 HRB.out).mono ?_
       rintro e w' ⟨rfl,h⟩
       exact⟨_,rfl,rfl,h⟩
      rintro _ wr2 ⟨rfl,hBr2⟩
      have hS2:=hS1.ext hBr2
      refine⟨hS2,?_⟩
      simp only[Act.put,sA,sZ,sS]
      refine rg_t 9 (some 29) (.bool (!PB)) rfl hS2 (fun w' hs=>by first | rfl | go_simp) ?_
      simp only[Act.put,sA,sZ,sS]
      refine rg_t 10 (some 30) (.bool (!PB)) rfl hS2 (fun w' hs=>by rfl) ?_
      simp only[Act.put,sA,sZ,sS]
      refine rg_done (by kernel_rfl) ?_
      cases PB with
      | false=>
       obtain rfl:false=R:=HT.out.symm.trans HI.out
       go_wp2_with fail
       go_ret
       exact⟨rfl,HX.out.trans hS2⟩
      | true=>
       have HN:Hid (mayI l (i+1)=R):=Lh (HT.out.symm.trans HI.out)
       clear HT HI
       go_wp2_with fail
       go_roundw
       case rel=>exact⟨i+1,by go_num,by omega,HX.out.trans hS2,HN⟩
       case measure=>simp only[downV];omega
     | false=>
      refine rg_t 2 (some 22) (.bool true) rfl hS1 (fun w' hs=>by first | rfl | go_simp) ?_
      simp only[Act.put,sA,sZ,sS]
      refine rg_t 3 (some 23) (.bool true) rfl hS1 (fun w' hs=>by rfl) ?_
      simp only[Act.put,sA,sZ,sS]
      refine rg_s 4 (some 24) rfl hS1 ?_
      simp only[Act.put,sA,sZ,sS]
      refine rg_s 5 (some 25) rfl hS1 ?_
      simp only[Act.put,sA,sZ,sS]
      refine rg_s 6 (some 26) rfl hS1 ?_
      simp only[Act.put,sA,sZ,sS]
      refine rg_s 7 (some 27) rfl hS1 ?_
      simp only[Act.put,sA,sZ,sS]
      refine rg_s 8 (some 28) rfl hS1 ?_
      simp only[Act.put,sA,sZ,sS]
      refine rg_s 9 (some 29) rfl hS1 ?_
      simp only[Act.put,sA,sZ,sS]
      refine rg_t 10 (some 30) (.bool true) rfl hS1 (fun w' hs=>by rfl) ?_
      simp only[Act.put,sA,sZ,sS]
      refine rg_done (by kernel_rfl) ?_
      obtain rfl:false=R:=HT.out.symm.trans HI.out
      go_wp2_with fail
      go_ret
      exact⟨rfl,HX.out.trans hS1⟩
    ·
     have hlI:¬(i:Int)< (l.length:Int):=by omega
     obtain rfl:true=R:=by rw[←HI.out,mayI_end l i hlt]
     clear HI
     go_wp2_with fail
     go_ret
     exact⟨rfl,hX⟩
  ·
   have h2I:(64:Int)< (l.length:Int):=by omega
   obtain rfl:false=R:=by rw[←HR0.out,if_neg (fun h=>h2 h.2)]
   clear h1 h2
   go_wp2_with fail
   go_ret
   exact⟨rfl,Ext.refl _⟩
 ·
  have h1I:(l.length:Int)< 1:=by omega
  obtain rfl:false=R:=by rw[←HR0.out,if_neg (fun h=>h1 h.1)]
  clear h1
  go_wp2_with fail
  go_ret
  exact⟨rfl,Ext.refl _⟩
end Go.Proofs.YtcfibjiikhnfhaaGreatDoor
