/-
 slices.SortFunc of keyed children. Helper lemmas;no statement of the seat is proved here.
-/
import Derived.Test.YtcfibjiikhnfhaaGreatDoorU14
import Derived.Shelf.SlSortCmp.WholeK
import Derived.Shelf.SlSortCmp.NoneTotal
import Derived.Deep.DeepCutAuto
namespace Go.Proofs.YtcfibjiikhnfhaaGreatDoor
open Go.RowKit
set_option maxHeartbeats 32000000
set_option maxRecDepth 100000
set_option linter.unusedVariables false
set_option linter.unusedSimpArgs false
open Go.Shelf Go.Lib in
def Tryz.sortKy_ren:Go.Shelf.Ren:=⟨fun | 6=>50 | 14=>95 | 15=>96 | 20=>135 | 21=>136 | 22=>137 | 23=>138 | 24=>139 | 25=>140 | 26=>141 | 27=>142 | 28=>143 | 29=>144 | 46=>183 | 47=>184 | 48=>185 | 49=>186 | 50=>187 | 57=>218 | n=>n,fun | 0=>0 | 3=>3 | 4=>4 | 5=>5 | 9=>9 | 22=>91 | 24=>98 | 25=>100 | 39=>158 | 45=>206 | 46=>207 | 50=>211 | 53=>214 | 55=>216 | 66=>244 | 70=>248 | 76=>266 | 77=>267 | n=>n,fun | n=>n⟩
open Go.Shelf Go.Lib in
theorem Tryz.sortKy:Go.Proofs.SlLaysF0.n6 Tryz.prog Tryz.sortKy_ren:={
 mixed:=by kernel_rfl
 f6:=⟨Tryz.f50.name,by decide,Tryz.func50.trans (congrArg some (by kernel_rfl))⟩
 f14:=⟨Tryz.f95.name,by decide,Tryz.func95.trans (congrArg some (by kernel_rfl))⟩
 f15:=Tryz.func96.trans (congrArg some (by kernel_rfl))
 f20:=⟨Tryz.f135.name,by decide,Tryz.func135.trans (congrArg some (by kernel_rfl))⟩
 f21:=⟨Tryz.f136.name,by decide,Tryz.func136.trans (congrArg some (by kernel_rfl))⟩
 f22:=⟨Tryz.f137.name,by decide,Tryz.func137.trans (congrArg some (by kernel_rfl))⟩
 f23:=⟨Tryz.f138.name,by decide,Tryz.func138.trans (congrArg some (by kernel_rfl))⟩
 f24:=⟨Tryz.f139.name,by decide,Tryz.func139.trans (congrArg some (by kernel_rfl))⟩
 f25:=⟨Tryz.f140.name,by decide,Tryz.func140.trans (congrArg some (by kernel_rfl))⟩
 f26:=⟨Tryz.f141.name,by decide,Tryz.func141.trans (congrArg some (by kernel_rfl))⟩
 f27:=⟨Tryz.f142.name,by decide,Tryz.func142.trans (congrArg some (by kernel_rfl))⟩
 f28:=Tryz.func143.trans (congrArg some (by kernel_rfl))
 f29:=Tryz.func144.trans (congrArg some (by kernel_rfl))
 f46:=⟨Tryz.f183.name,by decide,Tryz.func183.trans (congrArg some (by kernel_rfl))⟩
 f47:=Tryz.func184.trans (congrArg some (by kernel_rfl))
 f48:=Tryz.func185.trans (congrArg some (by kernel_rfl))
 f49:=⟨Tryz.f186.name,by decide,Tryz.func186.trans (congrArg some (by kernel_rfl))⟩
 f50:=⟨Tryz.f187.name,by decide,Tryz.func187.trans (congrArg some (by kernel_rfl))⟩
 f57:=⟨Tryz.f218.name,by decide,Tryz.func218.trans (congrArg some (by kernel_rfl))⟩
 t0:=Tryz.underlying0
 a0:=Tryz.isAgg0
 z0:=Tryz.sizeOf0
 v0:=Tryz.zeroValue0
 t3:=Tryz.underlying3
 a3:=Tryz.isAgg3
 z3:=Tryz.sizeOf3
 v3:=Tryz.zeroValue3
 t4:=Tryz.underlying4
 a4:=Tryz.isAgg4
 z4:=Tryz.sizeOf4
 v4:=Tryz.zeroValue4
 t5:=Tryz.underlying5
 a5:=Tryz.isAgg5
 z5:=Tryz.sizeOf5
 v5:=Tryz.zeroValue5
 t9:=Tryz.underlying9
 a9:=Tryz.isAgg9
 z9:=Tryz.sizeOf9
 v9:=Tryz.zeroValue9
 t22:=Tryz.underlying91
 a22:=Tryz.isAgg91
 z22:=Tryz.sizeOf91
 v22:=Tryz.zeroValue91
 t25:=Tryz.underlying100
 a25:=Tryz.isAgg100
 z25:=Tryz.sizeOf100
 v25:=Tryz.zeroValue100
 t39:=Tryz.underlying158
 a39:=Tryz.isAgg158
 z39:=Tryz.sizeOf158
 v39:=Tryz.zeroValue158
 t45:=Tryz.underlying206
 a45:=Tryz.isAgg206
 z45:=Tryz.sizeOf206
 v45:=Tryz.zeroValue206
 t46:=Tryz.underlying207
 a46:=Tryz.isAgg207
 z46:=Tryz.sizeOf207
 v46:=Tryz.zeroValue207
 t50:=Tryz.underlying211
 a50:=Tryz.isAgg211
 z50:=Tryz.sizeOf211
 v50:=Tryz.zeroValue211
 t53:=Tryz.underlying214
 a53:=Tryz.isAgg214
 z53:=Tryz.sizeOf214
 v53:=Tryz.zeroValue214
 t55:=Tryz.underlying216
 a55:=Tryz.isAgg216
 z55:=Tryz.sizeOf216
 v55:=Tryz.zeroValue216
 t66:=Tryz.underlying244
 a66:=Tryz.isAgg244
 z66:=Tryz.sizeOf244
 v66:=Tryz.zeroValue244
 t70:=Tryz.underlying248
 a70:=Tryz.isAgg248
 z70:=Tryz.sizeOf248
 v70:=Tryz.zeroValue248
 t76:=Tryz.underlying266
 a76:=Tryz.isAgg266
 z76:=Tryz.sizeOf266
 v76:=Tryz.zeroValue266
 t77:=Tryz.underlying267
 a77:=Tryz.isAgg267
 z77:=Tryz.sizeOf267
 v77:=Tryz.zeroValue267}
theorem ord_any (x y:Step×Node) (xk xa xb yk ya yb:Value) (p:Nat→Prop) (w:World) (hx:Rep w p xk (strsD x.1.key)) (hy:Rep w p yk (strsD y.1.key)):
  Calls Tryz.prog 51 #[.agg #[.string (bs x.1.n),xk,.int .i64 x.2.kind,.string (bs x.2.name),.string (bs x.2.text),xa,xb],.agg #[.string (bs y.1.n),yk,.int .i64 y.2.kind,.string (bs y.2.name),.string (bs y.2.text),ya,yb]] w fun e w'=>e= .returned (.int .i64 (stepI x.1 y.1))∧Gw w w':=by
 obtain⟨ka,kc,rfl,_,_⟩:=hx.count z_str (by omega)
 obtain⟨la,lc,rfl,_,_⟩:=hy.count z_str (by omega)
 obtain⟨w1,hw1⟩:∃W,w.alloc (.cells #[.string (bs x.1.n),.slice ka x.1.key.length kc,.int .i64 x.2.kind,.string (bs x.2.name),.string (bs x.2.text),xa,xb] 98)=W:=⟨_,rfl⟩
 obtain⟨w2,hw2⟩:∃W,w1.alloc (.cells #[.string (bs y.1.n),.slice la y.1.key.length lc,.int .i64 y.2.kind,.string (bs y.2.name),.string (bs y.2.text),ya,yb] 98)=W:=⟨_,rfl⟩
 obtain⟨g1,hg1⟩:∃g,w.heap.size=g:=⟨_,rfl⟩
 obtain⟨g2,hg2⟩:∃g,g1+1=g:=⟨_,rfl⟩
 have hs1:w1.heap.size=g2:=by rw[←hw1,←hg2,←hg1];simp
 have hE1:Ext w w1:=by rw[←hw1];exact(Ext.refl w).alloc _
 have hE2:Ext w1 w2:=by rw[←hw2];exact(Ext.refl w1).alloc _
 have hG:Gw w w2:=by rw[←hw2,←hw1];exact((Gw.refl w).alloc _).alloc _
 have b1:K7 w1 g1 x.1 x.2 (.slice ka x.1.key.length kc) xa xb:=by rw[←hw1,←hg1];exact k7_box w x.1 x.2 _ _ _
 have b2:K7 w2 g2 y.1 y.2 (.slice la y.1.key.length lc) ya yb:=by rw[←hw2,←hs1];exact k7_box w1 y.1 y.2 _ _ _
 have b1':=b1.ext hE2
 have c0:=b1'.c0;have c1:=b1'.c1;have d0:=b2.c0;have d1:=b2.c1
 have HC:=Lh (stepG_any x.1 y.1 p p _ _ w2 (hx.ext (hE1.trans hE2)) (hy.ext (hE1.trans hE2)))
 have HG:=Lh hG
 have HW:=Lh (And.intro hw1 (And.intro hw2 (And.intro hg1 hg2)))
 obtain⟨z,hz⟩:∃z,stepI x.1 y.1=z:=⟨_,rfl⟩
 rw[hz]at HC⊢
 clear hx hy hw1 hw2 hg1 hg2 hs1 hE1 hE2 hG b1 b2 b1' hz
 go_enter Tryz.func51,Tryz.ntmps51
 go_upto_region 1 with fail
 rw[HW.out.1,HW.out.2.1,HW.out.2.2.1]
 (try rw[HW.out.2.2.2])
 go_wp2_with fail
 refine HC.out.mono ?_
 rintro e w3 ⟨rfl,hX⟩
 go_wp2_with fail
 go_ret
 exact⟨rfl,HG.out.ext hX⟩
section
open Go.Sort
theorem grewK {α:Type} [Inhabited α] {enc:α→List Value} {k:Nat} {w W:World} {g:Nat} {d:Array α} (h:SWK enc k w g 0 d W):w.grownBy W (some g):=by
 obtain⟨n,os,rfl⟩:=h
 unfold sortWorldK putRowK
 refine⟨rfl,rfl,rfl,by simp,fun k hk hne=> ?_⟩
 rw[heap_grow_old _ _ (by simpa using hk)]
 have:g≠k:=fun e=>hne (by rw[e])
 simp[putRow,mapBlock,ahead,Array.getElem?_modify,this]
def enc7 (us:List Value) (n:Nat) (i:Fin n):List Value:=(us.drop (i.val*7)).take 7
theorem enc7_get (us:List Value) (n:Nat) (i:Fin n) (c:Nat) (hc:c< 7):(enc7 us n i)[c]? =us[i.val*7+c]? :=by
 unfold enc7
 rw[List.getElem?_take_of_lt hc,List.getElem?_drop]
theorem enc7_len (us:List Value) (n:Nat) (h:us.length=n*7) (i:Fin n):(enc7 us n i).length=7:=by
 unfold enc7
 rw[List.length_take,List.length_drop,h]
 have:=i.isLt
 omega
theorem enc7_is {w:World} {p:Nat→Prop} {L:List (Step×Node)} {us:List Value} (h:Reps w p us (L.flatMap keyedC)) (i:Fin L.length):
  ∃yk ya yb,enc7 us L.length i= [.string (bs (L[i.val]'i.isLt).1.n),yk,.int .i64 (L[i.val]'i.isLt).2.kind,.string (bs (L[i.val]'i.isLt).2.name),.string (bs (L[i.val]'i.isLt).2.text),ya,yb]∧Rep w p yk (strsD (L[i.val]'i.isLt).1.key):=by
 have hlen:=flat_len keyedC 7 z_keyed L
 have hus:us.length=L.length*7:=h.1.trans hlen
 have hg:∀c (hc:c< 7),∃u,us[i.val*7+c]? =some u∧∀d,(keyedC (L[i.val]'i.isLt))[c]? =some d→Rep w p u d:=fun c hc=>by
  have hb:i.val*7+c< us.length:=by have:=i.isLt;omega
  refine⟨us[i.val*7+c],List.getElem?_eq_getElem hb,fun d hd=>h.2 _ _ d (List.getElem?_eq_getElem hb) ?_⟩
  rw[flat_get keyedC 7 z_keyed L i.val i.isLt c hc];exact hd
 rw[keyedC_eq]at hg
 obtain⟨u0,e0,h0⟩:=hg 0 (by omega)
 obtain⟨u1,e1,h1⟩:=hg 1 (by omega)
 obtain⟨u2,e2,h2⟩:=hg 2 (by omega)
 obtain⟨u3,e3,h3⟩:=hg 3 (by omega)
 obtain⟨u4,e4,h4⟩:=hg 4 (by omega)
 obtain⟨u5,e5,h5⟩:=hg 5 (by omega)
 obtain⟨u6,e6,h6⟩:=hg 6 (by omega)
 have k0:=(h0 _ rfl).is
 have k2:=(h2 _ rfl).is
 have k3:=(h3 _ rfl).is
 have k4:=(h4 _ rfl).is
 refine⟨u1,u5,u6,List.ext_getElem? fun c=> ?_,h1 _ rfl⟩
 by_cases hc:c< 7
 ·
  rw[enc7_get _ _ _ _ hc]
  rcases c with _ | _ | _ | _ | _ | _ | _ | c
  ·
   rw[e0,k0];rfl
  ·
   rw[e1];rfl
  ·
   rw[e2,k2];rfl
  ·
   rw[e3,k3];rfl
  ·
   rw[e4,k4];rfl
  ·
   rw[e5];rfl
  ·
   rw[e6];rfl
  ·
   omega
 ·
  rw[List.getElem?_eq_none (by rw[enc7_len us L.length hus];omega),List.getElem?_eq_none (by simp only[List.length_cons,List.length_nil];omega)]
theorem keyed_one (y:Step×Node):∀e∈keyedC y,e.one=true:=fun e he=>by
 rw[keyedC_eq]at he
 simp only[List.mem_cons,List.not_mem_nil,or_false]at he
 rcases he with rfl | rfl | rfl | rfl | rfl | rfl | rfl<;> rfl
theorem fin_map {α:Type} (l:List α):(List.finRange l.length).map (fun i=>l[i.val]'i.isLt)=l:=by
 refine List.ext_getElem (by simp) fun i h1 h2=> ?_
 simp
def stepF (L:List (Step×Node)) (i j:Fin L.length):Int:=stepI (L[i.val]'i.isLt).1 (L[j.val]'j.isLt).1
theorem stepF_swo (L:List (Step×Node)):SWO (ltOf (stepF L)):=by
 have e:∀i j,ltOf (stepF L) i j=aheadB (L[i.val]'i.isLt).1 (L[j.val]'j.isLt).1:=fun i j=>by unfold ltOf stepF;rw[stepI_lt]
 refine⟨fun x=> ?_,fun x y z h1 h2=> ?_,fun x y z h1 h2=> ?_⟩
 ·
  rw[e];exact aheadB_irrefl _
 ·
  rw[e]at*;exact aheadB_trans _ _ _ h1 h2
 ·
  rw[e]at*
  cases h:aheadB (L[x.val]'x.isLt).1 (L[z.val]'z.isLt).1 with
  | false=>rfl
  | true=>
   exfalso
   by_cases hyx:(L[y.val]'y.isLt).1=(L[x.val]'x.isLt).1
   ·
    rw[hyx,h]at h2;cases h2
   ·
    have h3:=aheadB_total _ _ (Ne.symm hyx) h1
    rw[aheadB_trans _ _ _ h3 h]at h2;cases h2
theorem sortKy_any (L:List (Step×Node)) (hl:L.length≤1048576) (hnd:(stK L).Nodup) (base:Nat) (v:Value) (w:World) (h:Own w (fun b=>base≤b) base 98 7 v L.length (L.flatMap keyedC)):
  Calls Tryz.prog 50 #[v,.func (.func 51) #[] #[]] w fun e w'=>e= .returned (.tuple #[])∧Rep w' (fun b=>base≤b) v (keyedsD (sortK L))∧w.grownBy w' v.ownBlock:=by
 obtain⟨us,hr,hus⟩:=h
 obtain⟨a,cap,rfl,hc1,hc2⟩:=Own.form ⟨us,hr,hus⟩
 have hlen:=flat_len keyedC 7 z_keyed L
 have hul:us.length=L.length*7:=hus.1.trans hlen
 by_cases h0:L= []
 ·
  subst h0
  have hn:=AnyF.slices_SortFunc_none Tryz.sortKy a cap (.func (.func 51) #[] #[]) w
  refine hn.mono fun e w' ⟨he,hw⟩=>⟨he,?_,?_⟩
  ·
   rw[hw];exact rep_empty (Own.rep ⟨us,hr,hus⟩)
  ·
   rw[hw];exact⟨rfl,rfl,rfl,Nat.le_refl _,fun _ _ _=>rfl⟩
 ·
  have hn0:0< L.length:=List.length_pos_iff.2 h0
  rcases hr.2 with⟨hv,h2⟩ | ⟨g,cap',cur,hv,hbase,hb,h1,h2,h3,h4⟩
  ·
   exfalso;rw[h2]at hul;simp at hul;omega
  ·
   cases hv
   have hg:g< w.heap.size:=blk_lt hb
   haveI:Inhabited (Fin L.length):=⟨⟨0,hn0⟩⟩
   obtain⟨d,hd⟩:∃d:Array (Fin L.length),d=(List.finRange L.length).toArray:=⟨_,rfl⟩
   have hds:d.size=L.length:=by rw[hd];simp
   have hk:=enc7_len us L.length hul
   have hdg:∀(i:Nat) (hi:i< L.length),d[i]! =⟨i,hi⟩:=fun i hi=>by
    rw[getElem!_pos d i (by rw[hds];exact hi)]
    simp[hd]
   have hH:HoldsK (enc7 us L.length) 7 w g 0 d:=fun j hj=>by
    rw[size_flatK,hds]at hj
    have hj7:j / 7< L.length:=by omega
    rw[Nat.zero_add,hr.cellAt j hj,get_flatK _ 7 d j (by rw[hds];exact hj),hdg _ hj7]
    have hm:j % 7< (enc7 us L.length ⟨j / 7,hj7⟩).length:=by rw[hk];omega
    have hge:=enc7_get us L.length ⟨j / 7,hj7⟩ (j % 7) (by omega)
    rw[getElem!_pos (enc7 us L.length ⟨j / 7,hj7⟩) (j % 7) hm]
    rw[List.getElem?_eq_getElem hm,show(j / 7)*7+j % 7=j by omega]at hge
    exact⟨hge.symm,hr.frozenAt j⟩
   have hone:∀x,∀v∈enc7 us L.length x,v.oneCell'=true:=fun x v hv=>by
    obtain⟨yk,ya,yb,he,_⟩:=enc7_is hus x
    have hm:v∈us:=List.mem_of_mem_drop (List.mem_of_mem_take hv)
    exact hus.one (flat_one keyed_one L) v hm
   have hcmp:CmpLays Tryz.prog 51 #[] (enc7 us L.length) 7 (stepF L) g 0 d.size w:=fun m os dk hdk x y=>by
    have S:SWK (enc7 us L.length) 7 w g 0 dk (sortWorldK (enc7 us L.length) 7 w g 0 m dk os):=⟨m,os,rfl⟩
    have hgr:=grewK S
    obtain⟨xk,xa,xb,hx,hxr⟩:=enc7_is hus x
    obtain⟨yk,ya,yb,hy,hyr⟩:=enc7_is hus y
    rw[hx,hy]
    have hkeep:∀(u:Value) (l:List Bytes),Rep w (fun b=>base≤b∧some b≠(Value.slice (some ⟨g,0,none⟩) L.length cap).ownBlock∧b< w.heap.size) u (strsD l)→Rep (sortWorldK (enc7 us L.length) 7 w g 0 m dk os) (fun b=>base≤b) u (strsD l):=fun u l hu=>(hu.kept fun b hb hlt=>hgr.block b hlt hb.2.1).ok fun b hb=>hb.1
    exact ord_any (L[x.val]'x.isLt) (L[y.val]'y.isLt) xk xa xb yk ya yb _ _ (hkeep _ _ hxr) (hkeep _ _ hyr)
   have HS:=AnyQ.slices_SortFunc Tryz.sortKy 7 (fun w=>Tryz.isAgg98 w) (fun w=>Tryz.sizeOf98 w) (enc7 us L.length) hk hone (stepF L) (stepF_swo L) 51 #[] g 0 cap d w (fun args w=>by go_simp) hcmp hH hg (by omega)
   rw[hds]at HS
   refine HS.mono fun e w' ⟨he,d',n,os,hpm,hst,hw⟩=>⟨he,?_,?_⟩
   ·
    have S:SWK (enc7 us L.length) 7 w g 0 d' w':=⟨n,os,hw⟩
    have hgr:=grewK S
    have hds':d'.size=L.length:=by rw[hpm.1,hds]
    have hH2:=S.holds hg hH (by rw[hds',hds])
    have hperm:d'.toList.Perm (List.finRange L.length):=by
     have:=hpm.2.2
     rw[show d'.extract 0 L.length=d' from Array.ext (by simp;omega) (fun i h1 h2=>by simp),show d.extract 0 L.length=d from Array.ext (by simp;omega) (fun i h1 h2=>by simp)]at this
     rw[hd]at this
     simpa using this
    obtain⟨M,hM⟩:∃M,d'.toList.map (fun i=>L[i.val]'i.isLt)=M:=⟨_,rfl⟩
    have hMl:M.length=L.length:=by rw[←hM];simpa using hds'
    have hMp:M.Perm L:=by
     have:=hperm.map (fun i=>L[i.val]'i.isLt)
     rw[fin_map,hM]at this;exact this
    have hMg:∀(i:Nat) (hi:i< M.length),M[i]=L[(d'[i]'(by rw[hds',←hMl];exact hi)).val]'(d'[i]'(by rw[hds',←hMl];exact hi)).isLt:=fun i hi=>by
     subst hM;simp
    have hMs:M=sortK L:=by
     refine sortK_uniq hnd hMp ?_
     have hndM:(stK M).Nodup:=(List.Perm.map _ hMp).nodup_iff.2 hnd
     unfold Rising stK
     unfold stK at hndM
     rw[List.pairwise_map,List.pairwise_iff_getElem]
     intro i j hi hj hij
     refine aheadB_total _ _ (fun e=> ?_) ?_
     ·
      exact List.pairwise_iff_getElem.1 hndM i j (by simpa using hi) (by simpa using hj) hij (by simpa using e.symm)
     ·
      have:=hst i j (Nat.zero_le _) hij (by omega)
      rw[getElem!_pos d' i (by omega),getElem!_pos d' j (by omega)]at this
      rw[hMg i hi,hMg j hj]
      rw[←stepI_lt];exact this
    rw[←hMs]
    have hcell:∀(i c:Nat) (hi:i< M.length) (hc:c< 7),w'.cell? ⟨g,i*7+c,none⟩=us[(d'[i]'(by rw[hds',←hMl];exact hi)).val*7+c]? :=fun i c hi hc=>by
     have hi':i< d'.size:=by omega
     have hb2:i*7+c< (flatK (enc7 us L.length) 7 d').size:=by rw[size_flatK];omega
     have:=(hH2 (i*7+c) hb2).1
     rw[Nat.zero_add,get_flatK _ 7 d' _ (by omega),show(i*7+c) / 7=i by omega,show(i*7+c) % 7=c by omega,getElem!_pos d' i hi',getElem!_pos _ c (by rw[hk];exact hc)]at this
     rw[this,←enc7_get us L.length d'[i] c hc,List.getElem?_eq_getElem (by rw[hk];exact hc)];rfl
    obtain⟨ns,hns⟩:∃ns:List Value,ns=(List.range (M.length*7)).map fun j=>(w'.cell? ⟨g,j,none⟩).getD undef:=⟨_,rfl⟩
    have hnsl:ns.length=M.length*7:=by rw[hns];simp
    refine Rep.row g 0 L.length cap 7 ns (M.flatMap keyedC) (fun _=>hbase) ?_ ?_ hc1 hc2 (fun j u hj=> ?_) (fun j u e hj he=> ?_)
    ·
     rw[flat_len keyedC 7 z_keyed M,hMl]
    ·
     rw[hnsl,hMl]
    ·
     rw[hns,List.getElem?_map]at hj
     have hjl:j< M.length*7:=by
      rcases Nat.lt_or_ge j (M.length*7)with h' | h'
      ·
       exact h'
      ·
       rw[List.getElem?_eq_none (by simpa using h')]at hj;cases hj
     rw[List.getElem?_eq_getElem (by simpa using hjl)]at hj
     simp at hj
     rw[Nat.zero_add,←hj]
     have hi:j / 7< M.length:=by omega
     have:=hcell (j / 7) (j % 7) hi (by omega)
     rw[show j / 7*7+j % 7=j by omega]at this
     rw[this]
     have hlt:(d'[j / 7]'(by omega)).val*7+j % 7< us.length:=by have:=(d'[j / 7]'(by omega)).isLt;omega
     rw[List.getElem?_eq_getElem hlt];rfl
    ·
     have hjl:j< M.length*7:=by
      rcases Nat.lt_or_ge j (M.length*7)with h' | h'
      ·
       exact h'
      ·
       rw[List.getElem?_eq_none (by omega)]at hj;cases hj
     have hi:j / 7< M.length:=by omega
     rw[hns,List.getElem?_map,List.getElem?_eq_getElem (by simpa using hjl)]at hj
     simp at hj
     have hc:=hcell (j / 7) (j % 7) hi (by omega)
     rw[show j / 7*7+j % 7=j by omega]at hc
     have hlt:(d'[j / 7]'(by omega)).val*7+j % 7< us.length:=by have:=(d'[j / 7]'(by omega)).isLt;omega
     rw[hc,List.getElem?_eq_getElem hlt]at hj
     have hf:=flat_get keyedC 7 z_keyed M (j / 7) hi (j % 7) (by omega)
     rw[show j / 7*7+j % 7=j by omega,he,hMg _ hi]at hf
     have hf2:=flat_get keyedC 7 z_keyed L (d'[j / 7]'(by omega)).val (d'[j / 7]'(by omega)).isLt (j % 7) (by omega)
     rw[←hf]at hf2
     have hrep:=hus.2 _ _ e (List.getElem?_eq_getElem hlt) hf2
     have hj2:us[(d'[j / 7]'(by omega)).val*7+j % 7]=u:=by simpa using hj
     rw[hj2]at hrep
     exact(hrep.kept fun b hb hlt=>hgr.block b hlt hb.2.1).ok fun b hb=>hb.1
   ·
    have S:SWK (enc7 us L.length) 7 w g 0 d' w':=⟨n,os,hw⟩
    exact grewK S
end
theorem st5_size (W:World) (b:Nat) (n:Node) (xa xk:Value):(st5 W b n xa xk).heap.size=W.heap.size:=by unfold st5;simp
theorem st5_out (W:World) (b:Nat) (n:Node) (xa xk:Value):(st5 W b n xa xk).os=W.os∧(st5 W b n xa xk).tape=W.tape∧(st5 W b n xa xk).output=W.output:=by
 unfold st5
 simp only[(set_out _ _ _).1,(set_out _ _ _).2.1,(set_out _ _ _).2.2,and_self]
theorem exc_st5 {g b:Nat} {a w:World} (h:Exc g a w) (hb:a.heap.size≤b) (n:Node) (xa xk:Value):Exc g a (st5 w b n xa xk):=
 ⟨by rw[st5_size];exact h.1,fun x h1 h2=>by rw[st5_block _ _ _ _ _ (by omega)];exact h.2 x h1 h2,(st5_out w b n xa xk).1.trans h.3.1,(st5_out w b n xa xk).2.1.trans h.3.2.1,(st5_out w b n xa xk).2.2.trans h.3.2.2⟩
theorem ErrV.kept5 {w:World} {lo:Nat} {c a:Int} {v:Value} (h:ErrV w lo c a v) {b:Nat} (hb:b< lo) (n:Node) (xa xk:Value):ErrV (st5 w b n xa xk) lo c a v:=
 h.exc hb ((Exc.refl b w).st5 n xa xk)
theorem b5_of {W:World} {b:Nat} (h:W.heap[b]? =some (.cells #[.int .i64 0,.string ⟨#[]⟩,.string ⟨#[]⟩,.slice none 0 0,.slice none 0 0] 26 (0,0))):B5 W b zeroN (.slice none 0 0) (.slice none 0 0):=
 ⟨blk_lt h,by unfold World.cell?;rw[h];rfl,by unfold World.cell?;rw[h];rfl,by unfold World.cell?;rw[h];rfl,by unfold World.cell?;rw[h];rfl,by unfold World.cell?;rw[h];rfl,by unfold World.frozen?;rw[h];simp,by unfold World.frozen?;rw[h];simp,by unfold World.frozen?;rw[h];simp,by unfold World.frozen?;rw[h];simp,by unfold World.frozen?;rw[h];simp⟩
def E2 (w2:World) (nm:Bytes) (la:List Attr) (ua:Option Addr) (uc gz:Nat) (w':World):Prop:=Ext w2 w'∧w2.heap.size≤gz∧B5 w' gz (.mk 1 nm [] la []) (.slice ua la.length uc) (.slice none 0 0)∧Rep w' (fun b=>w2.heap.size≤b∧b≠gz) (.slice ua la.length uc) (attrsD la)
theorem keyed_len {w:World} {p:Nat→Prop} {a:Option Addr} {len cap:Nat} {l:List (Step×Node)} (h:Rep w p (.slice a len cap) (keyedsD l)) (i:Nat) (hi:i< l.length):l[i].2.name.length≤9223372036854775807∧l[i].2.text.length≤9223372036854775807:=by
 obtain⟨b,off,ha,hb,hp,hc⟩:=elem_at z_keyed h (by omega) i hi
 rw[keyedC_eq]at hc
 obtain⟨u3,hu3,hr3⟩:=hc 3 _ rfl
 obtain⟨u4,hu4,hr4⟩:=hc 4 _ rfl
 exact⟨hr3.len,hr4.len⟩
theorem elP_front {l:List Rule} {n:Node} {path:List Bytes} {first:Int} (h:frontS l path=true):elP l n path first= .inr (.mk 1 n.name [] (sortA [] n.attrs) (contL n.kids)):=by
 unfold elP;rw[normN_eq,if_pos h];rfl
theorem elP_kids {l:List Rule} {n:Node} {path:List Bytes} {first:Int} (h:frontS l path=false):elP l n path first=match kidsP l path first n.kids (first+1) []with
  | .inl c=> .inl c
  | .inr g=> .inr (.mk 1 n.name [] (sortA [] n.attrs) (ndK (sortK g))):=by
 unfold elP
 rw[normN_kids l n path first h]
 cases hk:kidsP l path first n.kids (first+1) []with
 | inl c=>exact if_neg (kidsP_err l path first n.kids _ _ c hk)
 | inr g=>exact if_pos rfl
theorem kidsP_nd {l:List Rule} {path:List Bytes} {own:Int} {ks:List Node} {at':Int} {g:List (Step×Node)} (h:kidsP l path own ks at' []= .inr g):(stK g).Nodup:=by
 obtain⟨_,h2,h3⟩:=(kidsP_ok l path own ks at' [] g (by simp[stK])).1 h
 rw[h3];exact h2
theorem el_step (l:List Rule) (N:Nat) (ih:ElemP l N):ElemP l (N+1):=by
 intro n path W g lv vp va vk first p q s hN hk1 hf0 hf1 H
 obtain⟨la0,lc,rfl,hlc1,hlc2⟩:=H.hl.count z_rule (by omega)
 obtain⟨pa,pc,rfl,hpc1,hpc2⟩:=H.hp.count z_str (by omega)
 obtain⟨ba,ca,rfl,_,_⟩:=H.ha.count z_attr (by omega)
 obtain⟨bk,ck,rfl,_,_⟩:=H.hk.count z_node (by omega)
 obtain⟨R,hR⟩:∃R,elP l n path first=R:=⟨_,rfl⟩
 rw[hR]
 have hcl:=cntL_len n.kids
 have hck:=cnt_kids n
 have hcn:=H.cnt
 have hel:=elemsN_1 n hk1
 have hal:=cntA_len n.attrs
 have hnz:=nsz_kids n
 obtain⟨w1,hw1⟩:∃X,(W.alloc (.cells #[.int .i64 n.kind,.string (bs n.name),.string (bs n.text),.slice ba n.attrs.length ca,.slice bk n.kids.length ck] 26)).alloc (.cells #[.int .i64 0,.string ⟨#[]⟩,.string ⟨#[]⟩,.slice none 0 0,.slice none 0 0] 26)=X:=⟨_,rfl⟩
 obtain⟨gk,hgk⟩:∃x,W.heap.size=x:=⟨_,rfl⟩
 obtain⟨gr,hgr⟩:∃x,gk+1=x:=⟨_,rfl⟩
 have hE1:Ext W w1:=by rw[←hw1];exact((Ext.refl W).alloc _).alloc _
 have hb1:B5 w1 gk n (.slice ba n.attrs.length ca) (.slice bk n.kids.length ck):=by rw[←hw1,←hgk];exact(b5_box W n _ _).ext ((Ext.refl _).alloc _)
 have hr1:B5 w1 gr zeroN (.slice none 0 0) (.slice none 0 0):=by
  rw[←hw1,←hgr,←hgk]
  have:=b5_zero (W.alloc (.cells #[.int .i64 n.kind,.string (bs n.name),.string (bs n.text),.slice ba n.attrs.length ca,.slice bk n.kids.length ck] 26))
  simpa using this
 have hsz1:w1.heap.size=gr+1:=by rw[←hw1];simp;omega
 have hlg:=H.fb.lt
 have hF1:=H.fb.ext hE1
 have r1:=hF1.c1
 have f1:=hF1.f1
 have hgg:gk≠g∧gr≠g:=by omega
 obtain⟨w2,hw2⟩:∃X,w1.setCell ⟨g,1,none⟩ (.int .i64 (first+1))=X:=⟨_,rfl⟩
 have hF2:FB w2 g (.slice la0 l.length lc) (first+1):=by rw[←hw2];exact hF1.set _
 have hX2:Exc g W w2:=by rw[←hw2];exact((Exc.refl g W).ext hE1).set (p:=⟨g,1,none⟩) rfl _
 have hX12:Exc g w1 w2:=by rw[←hw2];exact(Exc.refl g w1).set (p:=⟨g,1,none⟩) rfl _
 have hb2:=hb1.exc hgg.1 hX12
 have hr2:=hr1.exc hgg.2 hX12
 have hsz2:w2.heap.size=gr+1:=by rw[←hw2];simpa using hsz1
 have hha:=H.ha.exc H.pg hX2
 have hhk:=H.hk.exc H.pg hX2
 obtain⟨ks,hks⟩:∃k,n.kids=k:=⟨_,rfl⟩
 obtain⟨la,hla⟩:∃l,sortA [] n.attrs=l:=⟨_,rfl⟩
 have hnd:=(ndN_eq n).1 H.nd
 have HA:Hid (∀X,Ext w2 X→Calls Tryz.prog 45 #[.slice ba n.attrs.length ca] X fun e w'=>∃ua uc,e= .returned (.slice ua la.length uc)∧Rep w' (fun b=>X.heap.size≤b) (.slice ua la.length uc) (attrsD la)∧Ext X w'):=Lh fun X hE=>
  (rising_any n.attrs hnd.1 p _ X (by omega) (hha.ext hE)).mono fun e w' ⟨⟨u,he,hu⟩,hB⟩=>by
   rw[hla]at hu
   obtain⟨ua,uc,rfl,_,_⟩:=hu.count z_attr (by omega)
   exact⟨ua,uc,he,hu,hB⟩
 rw[hks]at hck hel hcl hnz hb2 hnd hhk hw1
 have HH:=Lh (show FH l n path W g (.slice la0 l.length lc) (.slice pa path.length pc) (.slice ba n.attrs.length ca) (.slice bk ks.length ck) first p q s∧nsz n< N+1∧n.kids=ks∧sortA [] n.attrs=la∧elP l n path first=R∧n.kind=1∧0≤first∧first+elemsN n≤4194304∧elemsN n=1+elemsL ks∧cntL ks≤1048576∧ndL ks∧nszL ks< N+1 from⟨by rw[←hks];exact H,hN,hks,hla,hR,hk1,hf0,hf1,hel,by omega,hnd.2,by omega⟩)
 have HG:=Lh (show gk=W.heap.size∧gr=gk+1∧w2.heap.size=gr+1∧g< gk∧Exc g W w2∧FB w2 g (.slice la0 l.length lc) (first+1)∧B5 w2 gk n (.slice ba n.attrs.length ca) (.slice bk ks.length ck)∧B5 w2 gr zeroN (.slice none 0 0) (.slice none 0 0)∧Rep w2 p (.slice bk ks.length ck) (nodesD ks) from⟨hgk.symm,hgr.symm,hsz2,by omega,hX2,hF2,hb2,hr2,hhk⟩)
 have HW:=Lh (And.intro hw1 (And.intro hgk (And.intro hgr hw2)))
 have hpl:path.length≤4194304:=by have:=H.pl;omega
 have hfw:IntKind.i64.wrap (first+1)=first+1:=by rw[IntKind.wrap_i64];omega
 have n0:=hb2.c0;have n1:=hb2.c1;have n2:=hb2.c2;have n3:=hb2.c3;have n4:=hb2.c4
 have lk:=hb2.lt
 have HKS:=Lh hks
 rw[hks]
 clear hR hcl hck hcn hel hal hnz hw1 hgk hgr hE1 hb1 hr1 hsz1 hlg hF1 hgg hw2 hF2 hX2 hX12 hb2 hr2 hsz2 hha hhk hks hla hnd H hN hk1 hf0 hf1
 go_enter Tryz.func21,Tryz.ntmps21
 go_upto_region 1 with fail
 rw[HW.out.1,HW.out.2.1,HW.out.2.2.1]
 go_upto_region 2 with fail
 rw[HW.out.2.2.2]
 clear r1 f1 hfw
 refine region_merge (fun ac ac' w'=>∃(ua:Option Addr) (uc gz:Nat),ac'=(((((((ac.put (some 20) (.pointer (some ⟨gk,1,none⟩))).put (some 21) (.string (bs n.name))).put (some 22) (.pointer (some ⟨gk,3,none⟩))).put (some 23) (.slice ba n.attrs.length ca)).put (some 24) (.slice ua la.length uc)).put (some 25) (.agg #[.int .i64 1,.string (bs n.name),.string ⟨#[]⟩,.slice ua la.length uc,.slice none 0 0])).put (some 8) (.pointer (some ⟨gz,0,none⟩)))∧E2 w2 n.name la ua uc gz w') ?_ ?_
 ·
  refine rg_begin (S:=Sx w2) (by kernel_rfl) (Sx.begin _) ?_
  have hSe:Sx w2 (World.drew w2):=(Sx.begin _)
  refine rg_t 0 (some 20) (.pointer (some ⟨gk,1,none⟩)) rfl hSe (fun w' hs=>by first | rfl | go_simp) ?_
  simp only[Act.put,sA,sZ,sS]
  refine rg_t 1 (some 21) (.string (bs n.name)) rfl hSe (fun w' hs=>by(have h0:=hs.cell lk n1;go_simp)) ?_
  simp only[Act.put,sA,sZ,sS]
  refine rg_t 2 (some 22) (.pointer (some ⟨gk,3,none⟩)) rfl hSe (fun w' hs=>by first | rfl | go_simp) ?_
  simp only[Act.put,sA,sZ,sS]
  refine rg_t 3 (some 23) (.slice ba n.attrs.length ca) rfl hSe (fun w' hs=>by(have h0:=hs.cell lk n3;go_simp)) ?_
  simp only[Act.put,sA,sZ,sS]
  refine rg_two 4 6 (by kernel_rfl) ?_ ?_
  ·
   refine tk_call 4 (some 24) 45 #[.slice ba n.attrs.length ca] rfl rfl (by rfl) (fun w'=>by first | rfl | go_simp) (R:=fun v w'=>∃(ua:Option Addr) (uc:Nat),v= .slice ua la.length uc∧Rep w' (fun b=>(World.drew w2).heap.size≤b) (.slice ua la.length uc) (attrsD la)∧Ext (World.drew w2) w') ?_ ?_
   ·
    exact(HA.out (World.drew w2) hSe).mono fun e w' ⟨ua,uc,he,hu,hB⟩=>⟨_,he,ua,uc,rfl,hu,hB⟩
   rintro _ xc ⟨ua,uc,rfl,hua,hBc⟩
   have hExc:Ext w2 xc:=(show Ext w2 (World.drew w2) from hSe).trans hBc
   refine⟨hExc,?_⟩
   simp only[Act.put,sA,sZ,sS]
   have hlo:w2.heap.size≤(World.drew w2).heap.size:=(show Ext w2 (World.drew w2) from hSe).size
   refine rg_t 5 (some 25) (.agg #[.int .i64 1,.string (bs n.name),.string ⟨#[]⟩,.slice ua la.length uc,.slice none 0 0]) rfl hExc (fun w' hs=>by first | rfl | go_simp) ?_
   simp only[Act.put,sA,sZ,sS]
   refine rg_one 6 (by kernel_rfl) ?_
   refine tk_new 6 (some 8) (.cells #[.int .i64 0,.string ⟨#[]⟩,.string ⟨#[]⟩,.slice none 0 0,.slice none 0 0] 26) (fun n=> .pointer (some ⟨n,0,none⟩)) rfl rfl (by rfl) (by first | rfl | go_simp) ?_
   intro gz xz egz hBz _ hgz
   have hkz:=b5_of hgz
   have hExz:Ext w2 xz:=(show Ext w2 xc from hExc).trans hBz
   refine⟨hExz,?_⟩
   simp only[Act.put,sA,sZ,sS]
   have hgl:w2.heap.size≤gz:=by rw[egz];exact(show Ext w2 xc from hExc).size
   have hlz:=hkz.lt
   have hua2:Rep xz (fun b=>w2.heap.size≤b∧b≠gz) (.slice ua la.length uc) (attrsD la):=(hua.lt.ok fun b hb=>⟨by have:=hb.1;have:=hlo;omega,by have:=hb.2;omega⟩).ext hBz
   refine rg_one 7 (by kernel_rfl) ?_
   have hTT:E2 w2 n.name la ua uc gz (st5 xz gz (.mk 1 n.name [] la []) (.slice ua la.length uc) (.slice none 0 0)):=⟨Ext.st5 (show Ext w2 xz from hExz) hgl _ _ _,hgl,hkz.put,hua2.kept fun b hb _=>st5_block xz gz (.mk 1 n.name [] la []) (.slice ua la.length uc) (.slice none 0 0) hb.2⟩
   refine tk_write 7 none (st5 xz gz (.mk 1 n.name [] la []) (.slice ua la.length uc) (.slice none 0 0)) (by rfl) rfl (by rfl) (exec_store rfl (store_nodeS (m:=(.mk 1 n.name [] la [])) hkz ua none la.length uc 0 0)) ?_
   refine⟨hTT.1,?_⟩
   simp only[Act.put,sA,sZ,sS]
   refine rg_done (by kernel_rfl) ?_
   exact⟨ua,uc,gz,(by first | rfl | simp only[Act.put,sA,sZ,sS]),hTT⟩
  ·
   refine tk_new 6 (some 8) (.cells #[.int .i64 0,.string ⟨#[]⟩,.string ⟨#[]⟩,.slice none 0 0,.slice none 0 0] 26) (fun n=> .pointer (some ⟨n,0,none⟩)) rfl rfl (by rfl) (by first | rfl | go_simp) ?_
   intro gz xz egz hBz _ hgz
   have hkz:=b5_of hgz
   have hExz:Ext w2 xz:=(show Ext w2 (World.drew w2) from hSe).trans hBz
   refine⟨hExz,?_⟩
   simp only[Act.put,sA,sZ,sS]
   have hgl:w2.heap.size≤gz:=by rw[egz];exact(show Ext w2 (World.drew w2) from hSe).size
   have hlz:=hkz.lt
   refine rg_one 4 (by kernel_rfl) ?_
   refine tk_call 4 (some 24) 45 #[.slice ba n.attrs.length ca] rfl rfl (by rfl) (fun w'=>by first | rfl | go_simp) (R:=fun v w'=>∃(ua:Option Addr) (uc:Nat),v= .slice ua la.length uc∧Rep w' (fun b=>xz.heap.size≤b) (.slice ua la.length uc) (attrsD la)∧Ext xz w') ?_ ?_
   ·
    exact(HA.out xz hExz).mono fun e w' ⟨ua,uc,he,hu,hB⟩=>⟨_,he,ua,uc,rfl,hu,hB⟩
   rintro _ xc ⟨ua,uc,rfl,hua,hBc⟩
   have hExc:Ext w2 xc:=(show Ext w2 xz from hExz).trans hBc
   refine⟨hExc,?_⟩
   simp only[Act.put,sA,sZ,sS]
   have hlo:w2.heap.size≤xz.heap.size:=(show Ext w2 xz from hExz).size
   have hua2:Rep xc (fun b=>w2.heap.size≤b∧b≠gz) (.slice ua la.length uc) (attrsD la):=hua.ok fun b hb=>by have hb':xz.heap.size≤b:=hb;exact⟨by omega,by omega⟩
   replace hkz:=hkz.ext hBc
   refine rg_t 5 (some 25) (.agg #[.int .i64 1,.string (bs n.name),.string ⟨#[]⟩,.slice ua la.length uc,.slice none 0 0]) rfl hExc (fun w' hs=>by first | rfl | go_simp) ?_
   simp only[Act.put,sA,sZ,sS]
   refine rg_one 7 (by kernel_rfl) ?_
   have hTT:E2 w2 n.name la ua uc gz (st5 xc gz (.mk 1 n.name [] la []) (.slice ua la.length uc) (.slice none 0 0)):=⟨Ext.st5 (show Ext w2 xc from hExc) hgl _ _ _,hgl,hkz.put,hua2.kept fun b hb _=>st5_block xc gz (.mk 1 n.name [] la []) (.slice ua la.length uc) (.slice none 0 0) hb.2⟩
   refine tk_write 7 none (st5 xc gz (.mk 1 n.name [] la []) (.slice ua la.length uc) (.slice none 0 0)) (by rfl) rfl (by rfl) (exec_store rfl (store_nodeS (m:=(.mk 1 n.name [] la [])) hkz ua none la.length uc 0 0)) ?_
   refine⟨hTT.1,?_⟩
   simp only[Act.put,sA,sZ,sS]
   refine rg_done (by kernel_rfl) ?_
   exact⟨ua,uc,gz,(by first | rfl | simp only[Act.put,sA,sZ,sS]),hTT⟩
 rintro _ w3 ⟨ua,uc,gz,rfl,hE2⟩
 simp only[Act.put,sA,sZ,sS]
 have HE2:=Lh hE2
 have hF3:=HG.out.2.2.2.2.2.1.ext hE2.1
 have r0:=hF3.c0
 have hX3:Exc g W w3:=HG.out.2.2.2.2.1.ext hE2.1
 have hrul:=HH.out.1.hl.exc HH.out.1.qg hX3
 have hpth:=HH.out.1.hp.exc HH.out.1.sg hX3
 have HFR:=Lh (frontK_any q s l path _ _ w3 (fun r hr=>(HH.out.1.rb r hr).2.2.2.2) hrul hpth)
 obtain⟨fr,hfr⟩:∃b,frontS l path=b:=⟨_,rfl⟩
 rw[hfr]at HFR
 have HF3:=Lh (And.intro hF3 (And.intro hX3 (And.intro hrul hpth)))
 have HFS:=Lh hfr
 clear hE2 hF3 hX3 hrul hpth hfr n0 n1 n2 n3 n4 lk HA
 cases fr with
 | true=>
  go_wp2_with fail
  refine HFR.out.mono ?_
  rintro e w4 ⟨rfl,hX4⟩
  have hb4:=(HG.out.2.2.2.2.2.2.1.ext HE2.out.1).ext hX4
  have n4:=hb4.c4
  have hF4:=HF3.out.1.ext hX4
  have hpg:=HH.out.1.pg
  have HSK:=Lh (skip_any (nszL ks+1) ks w4 g _ (first+1) p _ (by omega) HH.out.2.2.2.2.2.2.2.2.2.1 (by have:=HH.out;omega) (by have:=HH.out;omega) hF4 ((HG.out.2.2.2.2.2.2.2.2.ext HE2.out.1).ext hX4) hpg)
  have HX4:=Lh hX4
  clear hb4 hF4 hpg HFR hX4 r0
  go_wp2_with fail
  refine HSK.out.mono ?_
  rintro e w5 ⟨rfl,hF5,hX5⟩
  have hgn:gk≠g∧gr≠g∧gz≠g:=by have:=HG.out;have:=HE2.out.2.1;omega
  have hE24:=HE2.out.1.trans HX4.out
  have hb5:=(HG.out.2.2.2.2.2.2.1.ext hE24).exc hgn.1 hX5
  have hz5:=(HE2.out.2.2.1.ext HX4.out).exc hgn.2.2 hX5
  have hr5:=(HG.out.2.2.2.2.2.2.2.1.ext hE24).exc hgn.2.1 hX5
  have hua5:=(HE2.out.2.2.2.ext HX4.out).exc (fun b hb=>by have:=HG.out;omega) hX5
  have hk5:=(HG.out.2.2.2.2.2.2.2.2.ext hE24).exc HH.out.1.pg hX5
  have HCT:=Lh (content_any (nszL ks) ks p _ w5 (fun i h=>by have:=nszL_get ks i h;omega) HH.out.2.2.2.2.2.2.2.2.2.1 HH.out.2.2.2.2.2.2.2.2.2.2.1 hk5)
  have hXW5:Exc g W w5:=YY.Exc.trans' (HF3.out.2.1.ext HX4.out) hX5
  have n4:=hb5.c4
  have HS5:=Lh (show FB w5 g (.slice la0 l.length lc) (first+1+elemsL ks)∧Exc g W w5∧B5 w5 gz (.mk 1 n.name [] la []) (.slice ua la.length uc) (.slice none 0 0)∧B5 w5 gr zeroN (.slice none 0 0) (.slice none 0 0)∧Rep w5 (fun b=>w2.heap.size≤b∧b≠gz) (.slice ua la.length uc) (attrsD la)∧gz< w5.heap.size∧w2.heap.size≤w5.heap.size from⟨hF5,hXW5,hz5,hr5,hua5,hz5.lt,by have:=hE24.size;have:=hX5.1;omega⟩)
  obtain⟨lk,hlk⟩:∃l,contL ks=l:=⟨_,rfl⟩
  have hRR:Hid (R= .inr (.mk 1 n.name [] la lk)):=Lh (by rw[←HH.out.2.2.2.2.1,elP_front HFS.out,HH.out.2.2.2.1,HH.out.2.2.1,hlk])
  rw[hlk]at HCT
  clear hF5 hX5 hgn hE24 hb5 hz5 hr5 hua5 hk5 hXW5 HSK hlk
  go_wp2_with fail
  refine HCT.out.mono ?_
  rintro e w6 ⟨⟨uk,rfl,huk⟩,hX6⟩
  obtain⟨uka,ukc,rfl,_,_⟩:=huk.count z_node (by omega)
  have hz6:=HS5.out.2.2.1.ext hX6
  have c4:=hz6.c4;have f4:=hz6.f4
  obtain⟨w7,hw7⟩:∃X,w6.setCell ⟨gz,4,none⟩ (.slice uka lk.length ukc)=X:=⟨_,rfl⟩
  have hg:=HG.out
  have hgz:=HE2.out.2.1
  have hz7:B5 w7 gz (.mk 1 n.name [] la lk) (.slice ua la.length uc) (.slice uka lk.length ukc):=by rw[←hw7];exact hz6.set4 _ rfl rfl rfl
  have hk7:∀b,b≠gz→w7.heap[b]? =w6.heap[b]? :=fun b hb=>by rw[←hw7];exact Below.heap_setCell _ _ _ _ (by simpa using hb)
  have hs7:w7.heap.size=w6.heap.size:=by rw[←hw7];simp
  have hr7:=(HS5.out.2.2.2.1.ext hX6).block (W':=w7) (by omega) (hk7 gr (by omega))
  have hF7:=(HS5.out.1.ext hX6).block (W':=w7) (by omega) (hk7 g (by omega))
  have hXW7:Exc g W w7:=by
   have h6:=HS5.out.2.1.ext hX6
   exact⟨by have:=h6.1;omega,fun b h1 h2=>(hk7 b (by omega)).trans (h6.2 b h1 h2),by rw[←hw7];exact h6.3⟩
  have hua7:Rep w7 (fun b=>w2.heap.size≤b∧b≠gz) (.slice ua la.length uc) (attrsD la):=(HS5.out.2.2.2.2.1.ext hX6).kept fun b hb _=>hk7 b hb.2
  have huk7:Rep w7 (fun b=>w5.heap.size≤b) (.slice uka lk.length ukc) (nodesD lk):=huk.kept fun b hb _=>hk7 b (by have hb':w5.heap.size≤b:=hb;have:=HS5.out.2.2.2.2.2.1;omega)
  have m0:=hz7.c0;have m1:=hz7.c1;have m2:=hz7.c2;have m3:=hz7.c3;have m4:=hz7.c4
  obtain⟨u0,z0⟩:∃u,w7.cell? ⟨gr,0,none⟩=some u:=⟨_,hr7.c0⟩
  obtain⟨u1,z1⟩:∃u,w7.cell? ⟨gr,1,none⟩=some u:=⟨_,hr7.c1⟩
  obtain⟨u2,z2⟩:∃u,w7.cell? ⟨gr,2,none⟩=some u:=⟨_,hr7.c2⟩
  obtain⟨u3,z3⟩:∃u,w7.cell? ⟨gr,3,none⟩=some u:=⟨_,hr7.c3⟩
  obtain⟨u4,z4⟩:∃u,w7.cell? ⟨gr,4,none⟩=some u:=⟨_,hr7.c4⟩
  have y0:=hr7.f0;have y1:=hr7.f1;have y2:=hr7.f2;have y3:=hr7.f3;have y4:=hr7.f4
  have HP:=Lh (show B5 (st5 w7 gr (.mk 1 n.name [] la lk) (.slice ua la.length uc) (.slice uka lk.length ukc)) gr (.mk 1 n.name [] la lk) (.slice ua la.length uc) (.slice uka lk.length ukc)∧Exc g W (st5 w7 gr (.mk 1 n.name [] la lk) (.slice ua la.length uc) (.slice uka lk.length ukc))∧FB (st5 w7 gr (.mk 1 n.name [] la lk) (.slice ua la.length uc) (.slice uka lk.length ukc)) g (.slice la0 l.length lc) (first+elemsN n)∧Rep (st5 w7 gr (.mk 1 n.name [] la lk) (.slice ua la.length uc) (.slice uka lk.length ukc)) (fun b=>W.heap.size≤b) (.slice ua la.length uc) (attrsD la)∧Rep (st5 w7 gr (.mk 1 n.name [] la lk) (.slice ua la.length uc) (.slice uka lk.length ukc)) (fun b=>W.heap.size≤b) (.slice uka lk.length ukc) (nodesD lk) from by
   have hst:∀b,b≠gr→(st5 w7 gr (.mk 1 n.name [] la lk) (.slice ua la.length uc) (.slice uka lk.length ukc)).heap[b]? =w7.heap[b]? :=fun b hb=>st5_block w7 gr _ _ _ hb
   have h7:=HS5.out.2.2.2.2.2.2
   refine⟨hr7.put,exc_st5 hXW7 (by omega) _ _ _,?_,?_,?_⟩
   ·
    rw[show first+(elemsN n:Int)=first+1+elemsL ks by have:=HH.out.2.2.2.2.2.2.2.2.1;omega]
    exact hF7.block (by rw[st5_size];exact Nat.le_refl _) (hst g (by omega))
   ·
    exact(hua7.kept fun b hb _=>hst b (by have:=hb.1;omega)).ok fun b hb=>by have:=hb.1;omega
   ·
    exact(huk7.kept fun b hb _=>hst b (by have hb':w5.heap.size≤b:=hb;omega)).ok fun b hb=>by have hb':w5.heap.size≤b:=hb;omega)
  have HW7:=Lh hw7
  clear hz6 hw7 hz7 hk7 hs7 hr7 hF7 hXW7 hua7 huk7 huk hX6 HCT hg hgz n4
  go_upto_region 6 with fail
  rw[HW7.out]
  clear c4 f4
  go_wp2_with fail
  refine bodyPost_ret (res_node rfl _ _ _ ⟨gr,0,none⟩ ?_ (load_node HP.out.1)) rfl ?_
  ·
   rfl
  rw[hRR.out]
  exact⟨HP.out.2.1,HP.out.2.2.1,_,_,rfl,HP.out.2.2.2.1,HP.out.2.2.2.2⟩
 | false=>
  have hgn:gk≠g∧gr≠g∧gz≠g:=by have:=HG.out;have:=HE2.out.2.1;omega
  have hb3:=HG.out.2.2.2.2.2.2.1.ext HE2.out.1
  go_wp2_with fail
  refine HFR.out.mono ?_
  rintro e w4 ⟨rfl,hX4⟩
  have hb4:=hb3.ext hX4
  have n0:=hb4.c0;have n1:=hb4.c1;have n2:=hb4.c2;have n3:=hb4.c3;have n4:=hb4.c4
  have HX4:=Lh hX4
  have hFHk:FH l n path w4 g (.slice la0 l.length lc) (.slice pa path.length pc) (.slice ba n.attrs.length ca) (.slice bk ks.length ck) (first+1) p q s:=by
   have h0:=HH.out.1
   have hX:=HF3.out.2.1.ext hX4
   exact {h0 with
    en:=h0.gE _ hX
    fb:=HF3.out.1.ext hX4
    hl:=h0.hl.exc h0.qg hX
    hp:=h0.hp.exc h0.sg hX
    ha:=h0.ha.exc h0.pg hX
    hk:=h0.hk.exc h0.pg hX
    gE:=fun X hX'=>h0.gE X (YY.Exc.trans' hX hX')}
  have HCH:=Lh (children_step l N ih n path w4 g _ _ _ _ first p q s (by have:=HH.out.2.1;omega) HH.out.2.2.2.2.2.1 HH.out.2.2.2.2.2.2.1 HH.out.2.2.2.2.2.2.2.1 hFHk)
  have hRk:Hid (R=match kidsP l path first n.kids (first+1) []with
   | .inl c=> .inl c
   | .inr g=> .inr (.mk 1 n.name [] la (ndK (sortK g)))):=Lh (by rw[←HH.out.2.2.2.2.1,elP_kids HFS.out,HH.out.2.2.2.1])
  have hknd:= @kidsP_nd l path first n.kids (first+1)
  obtain⟨kr,hkr⟩:∃r,kidsP l path first n.kids (first+1) []=r:=⟨_,rfl⟩
  rw[hkr]at HCH hRk
  have HND:=Lh fun g (h:kr= .inr g)=>hknd (hkr.trans h)
  clear hb3 hb4 hX4 hFHk hknd hkr HFR r0
  go_wp2_with fail
  refine HCH.out.mono ?_
  intro e w5 hK
  clear n0 n1 n2 n3 n4 HCH
  cases kr with
  | inl c=>
   obtain⟨hX5,v,rfl,hv⟩:=hK
   obtain⟨b1,b2,rfl,hv⟩:=hv
   replace hv:ErrV w5 _ _ _ _:=⟨b1,b2,rfl,hv⟩
   obtain rfl:R= .inl c:=hRk.out
   have hr5:=((HG.out.2.2.2.2.2.2.2.1.ext HE2.out.1).ext HX4.out).exc hgn.2.1 hX5
   have hXW5:Exc g W w5:=YY.Exc.trans' (HF3.out.2.1.ext HX4.out) hX5
   obtain⟨u0,z0⟩:∃u,w5.cell? ⟨gr,0,none⟩=some u:=⟨_,hr5.c0⟩
   obtain⟨u1,z1⟩:∃u,w5.cell? ⟨gr,1,none⟩=some u:=⟨_,hr5.c1⟩
   obtain⟨u2,z2⟩:∃u,w5.cell? ⟨gr,2,none⟩=some u:=⟨_,hr5.c2⟩
   obtain⟨u3,z3⟩:∃u,w5.cell? ⟨gr,3,none⟩=some u:=⟨_,hr5.c3⟩
   obtain⟨u4,z4⟩:∃u,w5.cell? ⟨gr,4,none⟩=some u:=⟨_,hr5.c4⟩
   have y0:=hr5.f0;have y1:=hr5.f1;have y2:=hr5.f2;have y3:=hr5.f3;have y4:=hr5.f4
   have HP:=Lh (show B5 (st5 w5 gr zeroN (.slice none 0 0) (.slice none 0 0)) gr zeroN (.slice none 0 0) (.slice none 0 0)∧Exc g W (st5 w5 gr zeroN (.slice none 0 0) (.slice none 0 0))∧ErrV (st5 w5 gr zeroN (.slice none 0 0) (.slice none 0 0)) W.heap.size c.1 c.2 (.iface 116 (.pointer (some ⟨b1,0,none⟩))) from by
    have hg:=HG.out
    have hs4:=(HE2.out.1.trans HX4.out).size
    exact⟨hr5.put,exc_st5 hXW5 (by omega) _ _ _,(hv.kept5 (by omega) _ _ _).low (by omega)⟩)
   clear hX5 hv hr5 hXW5
   go_wp2_with fail
   refine bodyPost_ret (res_node rfl _ _ _ ⟨gr,0,none⟩ ?_ (load_node HP.out.1)) rfl ?_
   ·
    rfl
   exact⟨HP.out.2.1,_,rfl,HP.out.2.2⟩
  | inr K=>
   obtain⟨hX5,hF5,v,rfl,hKl,hO5⟩:=hK
   have hKnd:=HND.out K rfl
   have hrow5:Hid (∀b,v.ownBlock=some b→w4.heap.size≤b∧b< w5.heap.size):=Lh fun b hb=>by obtain⟨us',h',_⟩:=hO5.rows;exact h'.lt b hb
   obtain⟨va,vc,rfl,hvc1,hvc2⟩:=hO5.form
   have HSR:=Lh (sortKy_any K hKl hKnd w4.heap.size _ w5 hO5)
   obtain⟨M,hM⟩:∃M,sortK K=M:=⟨_,rfl⟩
   have hMl:K.length=M.length:=by rw[←hM];exact((sortK_perm K).length_eq).symm
   have HR2:Hid (R= .inr (.mk 1 n.name [] la (ndK M))):=Lh (by rw[←hM];exact hRk.out)
   rw[hM]at HSR
   rw[hMl]at HSR hKl hvc1 hrow5⊢
   have hE24:=HE2.out.1.trans HX4.out
   have hz5:=(HE2.out.2.2.1.ext HX4.out).exc hgn.2.2 hX5
   have hr5:=(HG.out.2.2.2.2.2.2.2.1.ext hE24).exc hgn.2.1 hX5
   have hua5:=(HE2.out.2.2.2.ext HX4.out).lt.exc (fun b hb=>by have:=HG.out;have:=hb.1;omega) hX5
   have hXW5:Exc g W w5:=YY.Exc.trans' (HF3.out.2.1.ext HX4.out) hX5
   have hl4:g< w4.heap.size∧gr< w4.heap.size∧gz< w4.heap.size∧w2.heap.size≤w4.heap.size:=by
    have:=HG.out;have h1:=HE2.out.2.2.1.lt;have:=HX4.out.size;have:=HE2.out.1.size;omega
   have HS5:=Lh (show FB w5 g (.slice la0 l.length lc) (first+elemsN n)∧Exc g W w5∧B5 w5 gz (.mk 1 n.name [] la []) (.slice ua la.length uc) (.slice none 0 0)∧B5 w5 gr zeroN (.slice none 0 0) (.slice none 0 0)∧Rep w5 (fun b=>(w2.heap.size≤b∧b≠gz)∧b< w4.heap.size) (.slice ua la.length uc) (attrsD la)∧w4.heap.size≤w5.heap.size from⟨hF5,hXW5,hz5,hr5,hua5,hX5.1⟩)
   have HL4:=Lh hl4
   have HGN:=Lh hgn
   obtain⟨j0,ji,jz0,jz1,jz2⟩:=info_parts infoNode
   clear hX5 hF5 hKnd hO5 hM hMl hE24 hz5 hr5 hua5 hXW5 hl4 hgn hRk HND
   go_wp2_with fail
   refine HSR.out.mono ?_
   rintro e w6 ⟨rfl,hlist,hgr6⟩
   have hk6:∀b,b< w4.heap.size→w6.heap[b]? =w5.heap[b]? :=fun b hb=>hgr6.block b (by have:=HS5.out.2.2.2.2.2;omega) (fun e=>by have:=(hrow5.out b e.symm).1;omega)
   have hs6:=hgr6.size
   have hF6:=HS5.out.1.block hs6 (hk6 g HL4.out.1)
   have hz6:=HS5.out.2.2.1.block hs6 (hk6 gz HL4.out.2.2.1)
   have hr6:=HS5.out.2.2.2.1.block hs6 (hk6 gr HL4.out.2.1)
   have hXW6:Exc g W w6:=HS5.out.2.1.grown hgr6 fun k hk=>by have:=(hrow5.out k hk).1;have:=HG.out;have:=HL4.out;omega
   have hua6:=HS5.out.2.2.2.2.1.kept (w':=w6) fun b hb _=>hk6 b hb.2
   have HS6:=Lh (And.intro hF6 (And.intro hXW6 (And.intro hr6 (And.intro hua6 hlist))))
   have HZ6:=Lh (And.intro hz6 (show w4.heap.size≤w6.heap.size by have:=HS5.out.2.2.2.2.2;omega))
   clear hk6 hs6 hF6 hz6 hr6 hXW6 hua6 hlist hgr6 HSR
   go_wp2_with fail
   go_loopw [12,56] (fun _ t wr=>∃(i:Nat) (dv:Value),t= .int .i64 i∧i≤M.length∧Hid (Exc gz w6 wr∧B5 wr gz (.mk 1 n.name [] la []) (.slice ua la.length uc) dv∧Own wr (fun b=>w4.heap.size≤b) w6.heap.size 26 5 dv i (((ndK M).take i).flatMap nodeC))) (fun _ t _=>downV M.length t)
   case atStart=>exact⟨0,_,rfl,Nat.zero_le _,Lh ⟨Exc.refl _ _,HZ6.out.1,by rw[List.take_zero];exact Own.nil _ _ _ _ _⟩⟩
   case round=>
    obtain⟨i,dv,rfl,hi,HI⟩:=hrel
    have hi0:(0:Int)≤(i:Int):=by omega
    by_cases hlt:i< M.length
    ·
     have hlI:(i:Int)< (M.length:Int):=by omega
     have hlw:=HS6.out.2.2.2.2.lt.exc (fun b hb=>by have:=hb.1;have:=HL4.out;omega) HI.out.1
     obtain⟨gb,ob,xk,xa,ya,rfl,lgb,_,e0,e1,e2,e3,e4,e5,e6,hk,hxa,hxk⟩:=keyed_at hlw i hlt
     have hMi:Hid ((ndK M).take (i+1)=(ndK M).take i++ [M[i].2]):=Lh (by
      have h:i< (ndK M).length:=by unfold ndK;rw[List.length_map];exact hlt
      rw[List.take_add_one,List.getElem?_eq_getElem h,show(ndK M)[i]=M[i].2 from List.getElem_map ..];rfl)
     have hnx:=keyed_len HS6.out.2.2.2.2 i hlt
     obtain⟨x,hx⟩:∃x,M[i]=x:=⟨_,rfl⟩
     rw[hx]at e0 e2 e3 e4 hk hxa hxk hMi hnx
     obtain⟨ka,kc,rfl,_,_⟩:=hk.count z_str (by omega)
     obtain⟨xaa,xac,rfl,_,_⟩:=hxa.count z_attr (by omega)
     obtain⟨yaa,yac,rfl,_,_⟩:=hxk.count z_node (by omega)
     obtain⟨w7,hw7⟩:∃X,wr.alloc (.cells #[.string (bs x.1.n),.slice ka x.1.key.length kc,.int .i64 x.2.kind,.string (bs x.2.name),.string (bs x.2.text),.slice xaa x.2.attrs.length xac,.slice yaa x.2.kids.length yac] 98)=X:=⟨_,rfl⟩
     obtain⟨g7,hg7⟩:∃y,wr.heap.size=y:=⟨_,rfl⟩
     have hE7:Ext wr w7:=by rw[←hw7];exact(Ext.refl wr).alloc _
     have hk7:K7 w7 g7 x.1 x.2 (.slice ka x.1.key.length kc) (.slice xaa x.2.attrs.length xac) (.slice yaa x.2.kids.length yac):=by rw[←hw7,←hg7];exact k7_box wr x.1 x.2 _ _ _
     have hz7:=HI.out.2.1.ext hE7
     have m2:=hk7.c2;have m3:=hk7.c3;have m4:=hk7.c4;have m5:=hk7.c5;have m6:=hk7.c6
     have c4:=hz7.c4
     obtain⟨us,hrow,hreps⟩:=(Own.ext HI.out.2.2 hE7).rows
     have HU:=Lh (show B5 w7 gz (.mk 1 n.name [] la []) (.slice ua la.length uc) dv∧Exc gz w6 w7∧Reps w7 _ us _∧Rep w7 (fun b=>w4.heap.size≤b∧b< w6.heap.size) (.slice xaa x.2.attrs.length xac) (attrsD x.2.attrs)∧Rep w7 (fun b=>w4.heap.size≤b∧b< w6.heap.size) (.slice yaa x.2.kids.length yac) (nodesD x.2.kids)∧w6.heap.size≤w7.heap.size from⟨hz7,HI.out.1.ext hE7,hreps,(hxa.ext hE7),(hxk.ext hE7),by have:=HI.out.1.1;have:=hE7.size;omega⟩)
     have HW7:=Lh (And.intro hw7 hg7)
     have hil:i≤1048576:=by omega
     clear hw7 hg7 hE7 hk7 hz7 hreps hlw hk hxa hxk hx
     go_upto_region 14 with fail
     rw[HW7.out.1,HW7.out.2]
     clear e0 e1 e2 e3 e4 e5 e6
     have hz67:w6.heap.size≤w7.heap.size:=HU.out.2.2.2.2.2
     have hnew:∀(j:Nat) (v:Value),([.int .i64 x.2.kind,.string (bs x.2.name),.string (bs x.2.text),.slice xaa x.2.attrs.length xac,.slice yaa x.2.kids.length yac]:List Value)[j]? =some v→(w7.alloc (.cells #[.int .i64 x.2.kind,.string (bs x.2.name),.string (bs x.2.text),.slice xaa x.2.attrs.length xac,.slice yaa x.2.kids.length yac] 26)).cell? ((⟨w7.heap.size,0,none⟩:Addr).add j)=some v:=new_cells (w:=w7) (e:=26) [.int .i64 x.2.kind,.string (bs x.2.name),.string (bs x.2.text),.slice xaa x.2.attrs.length xac,.slice yaa x.2.kids.length yac]
     have hone:∀u∈([.int .i64 x.2.kind,.string (bs x.2.name),.string (bs x.2.text),.slice xaa x.2.attrs.length xac,.slice yaa x.2.kids.length yac]:List Value),u.oneCell'=true:=by intro u hu;simp only[List.mem_cons,List.not_mem_nil,or_false]at hu;rcases hu with rfl | rfl | rfl | rfl | rfl<;> rfl
     have hq1:i+1≤maxLen:=by unfold maxLen;omega
     have hq2:(i+1)*88≤140737488355328:=by omega
     have hq3:w6.heap.size≤(w7.alloc (.cells #[.int .i64 x.2.kind,.string (bs x.2.name),.string (bs x.2.text),.slice xaa x.2.attrs.length xac,.slice yaa x.2.kids.length yac] 26)).heap.size:=Nat.le_trans hz67 ((Ext.refl w7).alloc _).size
     have hrow':=hrow.alloc (.cells #[.int .i64 x.2.kind,.string (bs x.2.name),.string (bs x.2.text),.slice xaa x.2.attrs.length xac,.slice yaa x.2.kids.length yac] 26)
     have HQ:=Lh (And.intro hnew (And.intro hone (And.intro hq1 (And.intro hq2 (And.intro hq3 hrow')))))
     clear hnew hone hq1 hq2 hq3 hrow'
     go_wp2_with (at_builtin;refine wpList_append_own_at _ rfl (.tmp 61) (.tmp 64) _ rfl w6.heap.size 26 j0 (.agg #[.int .i64 0,.string ⟨#[]⟩,.string ⟨#[]⟩,.slice none 0 0,.slice none 0 0]) 5 88 Tryz.underlying24 ji jz0 jz1 jz2 rfl (by decide) dv i us rfl HQ.out.2.2.2.2.2 ⟨w7.heap.size,0,none⟩ 1 1 [.int .i64 x.2.kind,.string (bs x.2.name),.string (bs x.2.text),.slice xaa x.2.attrs.length xac,.slice yaa x.2.kids.length yac] rfl rfl HQ.out.1 HQ.out.2.1 HQ.out.2.2.1 HQ.out.2.2.2.1 HQ.out.2.2.2.2.1 ?_;intro v2 w8 hown8 hgrow8 _ hat8;refine Hid.out ?_)
     refine Lh ?_
     have hO8:Own w8 (fun b=>w4.heap.size≤b) w6.heap.size 26 5 v2 (i+1) (((ndK M).take (i+1)).flatMap nodeC):=by
      rw[hMi.out,List.flatMap_append,List.flatMap_singleton,nodeC_eq]
      obtain⟨hz7,hX7,hreps,hxa,hxk,hs⟩:=HU.out
      have hZ:=HZ6.out.2
      have hlt6:∀b,dv.ownBlock=some b→w6.heap.size≤b:=fun b hb=>(hrow.lt b hb).1
      have hfr:∀(u:Value) (d:DV),Rep w7 (fun b=>w4.heap.size≤b∧b< w6.heap.size) u d→Rep (w7.alloc (.cells #[.int .i64 x.2.kind,.string (bs x.2.name),.string (bs x.2.text),.slice xaa x.2.attrs.length xac,.slice yaa x.2.kids.length yac] 26)) (fun b=>w4.heap.size≤b∧some b≠dv.ownBlock∧b< (w7.alloc (.cells #[.int .i64 x.2.kind,.string (bs x.2.name),.string (bs x.2.text),.slice xaa x.2.attrs.length xac,.slice yaa x.2.kids.length yac] 26)).heap.size) u d:=fun u d h=>(h.ext ((Ext.refl w7).alloc _)).ok fun b hb=>⟨hb.1,fun e=>by have:=hlt6 b e.symm;omega,by simp;omega⟩
      refine Own.push (us:=us) ?_ (Reps.cons (Rep.int _ _ _ _) (Reps.cons (Rep.string _ _ _ (by rw[bs_size];exact hnx.1)) (Reps.cons (Rep.string _ _ _ (by rw[bs_size];exact hnx.2)) (Reps.cons (e:=attrsD x.2.attrs) (hfr _ _ hxa) (Reps.cons (e:=nodesD x.2.kids) (hfr _ _ hxk) (Reps.nil _ _)))))) hown8 hgrow8 hat8
      exact(hreps.ext ((Ext.refl w7).alloc _)).ok fun b hb=>⟨hb.1,hb.2.1,by simp;omega⟩
     obtain⟨a2,c2,rfl,hc21,hc22⟩:=hO8.form
     have hA7:Ext w7 (w7.alloc (.cells #[.int .i64 x.2.kind,.string (bs x.2.name),.string (bs x.2.text),.slice xaa x.2.attrs.length xac,.slice yaa x.2.kids.length yac] 26)):=(Ext.refl w7).alloc _
     have hgz6:gz< w6.heap.size:=by have:=HL4.out;have:=HZ6.out.2;omega
     have hz8:B5 w8 gz (.mk 1 n.name [] la []) (.slice ua la.length uc) dv:=(HU.out.1.ext hA7).block hgrow8.size (hgrow8.block gz (by have:=hA7.size;omega) fun e=>by have:=(hrow.lt gz e.symm).1;omega)
     have hX8:Exc gz w6 w8:=(HU.out.2.1.ext hA7).grown hgrow8 fun k hk=>(hrow.lt k hk).1
     have d4:=hz8.c4;have f4:=hz8.f4
     obtain⟨w9,hw9⟩:∃X,w8.setCell ⟨gz,4,none⟩ (.slice a2 (i+1) c2)=X:=⟨_,rfl⟩
     have hz9:B5 w9 gz (.mk 1 n.name [] la []) (.slice ua la.length uc) (.slice a2 (i+1) c2):=by rw[←hw9];exact hz8.set4 _ rfl rfl rfl
     have hX9:Exc gz w6 w9:=by rw[←hw9];exact hX8.set (p:=⟨gz,4,none⟩) rfl _
     have hO9:Own w9 (fun b=>w4.heap.size≤b) w6.heap.size 26 5 (.slice a2 (i+1) c2) (i+1) (((ndK M).take (i+1)).flatMap nodeC):=by
      rw[←hw9]
      obtain⟨us',hr',hp'⟩:=hO8
      have h4:=HL4.out
      exact⟨us',rows_set hr' (p:=⟨gz,4,none⟩) (fun e=>by have:=(hr'.lt gz e.symm).1;omega) _,(hp'.kept fun b hb _=>Below.heap_setCell _ _ _ _ (by have:=hb.1;simp only;omega)).ok fun b hb=>⟨hb.1,hb.2.1,by simpa using hb.2.2⟩⟩
     have HR9:=Lh (And.intro hX9 (And.intro hz9 hO9))
     clear hown8 hgrow8 hat8 hrow hO8 hA7 hz8 hX8 hz9 hX9 hO9 HU m2 m3 m4 m5 m6 c4
     go_wp2_with fail
     go_roundw
     case rel=>exact⟨i+1,_,by go_num,by omega,HR9⟩
     case measure=>simp only[downV];omega
    ·
     have hlI:¬(i:Int)< (M.length:Int):=by omega
     have hiM:(ndK M).take i=ndK M:=List.take_of_length_le (by unfold ndK;rw[List.length_map];omega)
     have hlen:i=(ndK M).length:=by unfold ndK;rw[List.length_map];omega
     have HI2:=HI.out
     rw[hiM]at HI2
     obtain⟨lk,hlk⟩:∃l,ndK M=l:=⟨_,rfl⟩
     rw[hlk]at HI2 hlen HR2
     obtain⟨a2,c2,rfl,hc21,hc22⟩:=HI2.2.2.form
     subst hlen
     have hrr:=HS6.out.2.2.1.exc (show gr≠gz by have:=HG.out;have:=HE2.out.2.1;omega) HI2.1
     have m0:=HI2.2.1.c0;have m1:=HI2.2.1.c1;have m2:=HI2.2.1.c2;have m3:=HI2.2.1.c3;have m4:=HI2.2.1.c4
     obtain⟨u0,z0⟩:∃u,wr.cell? ⟨gr,0,none⟩=some u:=⟨_,hrr.c0⟩
     obtain⟨u1,z1⟩:∃u,wr.cell? ⟨gr,1,none⟩=some u:=⟨_,hrr.c1⟩
     obtain⟨u2,z2⟩:∃u,wr.cell? ⟨gr,2,none⟩=some u:=⟨_,hrr.c2⟩
     obtain⟨u3,z3⟩:∃u,wr.cell? ⟨gr,3,none⟩=some u:=⟨_,hrr.c3⟩
     obtain⟨u4,z4⟩:∃u,wr.cell? ⟨gr,4,none⟩=some u:=⟨_,hrr.c4⟩
     have y0:=hrr.f0;have y1:=hrr.f1;have y2:=hrr.f2;have y3:=hrr.f3;have y4:=hrr.f4
     have HP:=Lh (show B5 (st5 wr gr (.mk 1 n.name [] la lk) (.slice ua la.length uc) (.slice a2 lk.length c2)) gr (.mk 1 n.name [] la lk) (.slice ua la.length uc) (.slice a2 lk.length c2)∧Exc g W (st5 wr gr (.mk 1 n.name [] la lk) (.slice ua la.length uc) (.slice a2 lk.length c2))∧FB (st5 wr gr (.mk 1 n.name [] la lk) (.slice ua la.length uc) (.slice a2 lk.length c2)) g (.slice la0 l.length lc) (first+elemsN n)∧Rep (st5 wr gr (.mk 1 n.name [] la lk) (.slice ua la.length uc) (.slice a2 lk.length c2)) (fun b=>W.heap.size≤b) (.slice ua la.length uc) (attrsD la)∧Rep (st5 wr gr (.mk 1 n.name [] la lk) (.slice ua la.length uc) (.slice a2 lk.length c2)) (fun b=>W.heap.size≤b) (.slice a2 lk.length c2) (nodesD lk) from by
      have hst:∀b,b≠gr→(st5 wr gr (.mk 1 n.name [] la lk) (.slice ua la.length uc) (.slice a2 lk.length c2)).heap[b]? =wr.heap[b]? :=fun b hb=>st5_block wr gr _ _ _ hb
      obtain⟨hF6,hXW6,hr6,hua6,hlist⟩:=HS6.out
      have hg:=HG.out
      have h4:=HL4.out
      have h2:=HE2.out.2.1
      have h6:=HZ6.out.2
      refine⟨hrr.put,exc_st5 ⟨Nat.le_trans hXW6.1 HI2.1.1,fun b h1 h2=>(HI2.1.2 b (by omega) (Nat.lt_of_lt_of_le h2 hXW6.1)).trans (hXW6.2 b h1 h2),HI2.1.3.1.trans hXW6.3.1,HI2.1.3.2.1.trans hXW6.3.2.1,HI2.1.3.2.2.trans hXW6.3.2.2⟩ (by omega) _ _ _,?_,?_,?_⟩
      ·
       exact(hF6.block HI2.1.1 (HI2.1.2 g (by omega) hF6.lt)).block (by rw[st5_size];exact Nat.le_refl _) (hst g (by omega))
      ·
       exact((hua6.exc (fun b hb=>hb.1.2) HI2.1).kept fun b hb _=>hst b (by have:=hb.1.1;omega)).ok fun b hb=>by have:=hb.1.1;omega
      ·
       exact(HI2.2.2.rep.kept fun b hb _=>hst b (by rcases hb with hb | hb<;> (have hb':_≤b:=hb;omega))).ok fun b hb=>by rcases hb with hb | hb<;> (have hb':_≤b:=hb;omega))
     clear HI2 hrr
     go_wp2_with fail
     refine bodyPost_ret (res_node rfl _ _ _ ⟨gr,0,none⟩ ?_ (load_node HP.out.1)) rfl ?_
     ·
      rfl
     rw[HR2.out]
     exact⟨HP.out.2.1,HP.out.2.2.1,_,_,rfl,HP.out.2.2.2.1,HP.out.2.2.2.2⟩
theorem el_any (l:List Rule):∀N:Nat,ElemP l N:=by
 intro N
 induction N with
 | zero=>intro n path W g lv vp va vk at' p q s hN;omega
 | succ N ih=>exact el_step l N ih
end Go.Proofs.YtcfibjiikhnfhaaGreatDoor
