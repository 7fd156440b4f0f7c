/-
 Laws drawn from elder texts. Helper lemmas;no statement of the seat is proved here.
-/
import Derived.Test.YtngmgjodcnknoaaGreatDoorU25
import Derived.Test.YtngmgjodcnknoaaGreatDoorZhelf2
import Derived.Laws.OwnMore
import Derived.Sort.OwnSorted
namespace Go.Proofs.YtngmgjodcnknoaaGreatDoor
open Go.RowKit
set_option maxHeartbeats 32000000
set_option maxRecDepth 100000
set_option linter.unusedVariables false
set_option linter.unusedSimpArgs false
theorem imax_if (a b:Int):max a b=if a< b then b else a:=by split<;> omega
theorem spanV_len:∀l,(spanV l).length=l.length*2
 | []=>rfl
 | s::r=>by rw[spanV,List.flatMap_cons,List.length_append,←spanV,spanV_len r];simp only[List.length_cons,List.length_nil];omega
theorem spanV_append (l m:List Span):spanV (l++m)=spanV l++spanV m:=by unfold spanV;rw[List.flatMap_append]
theorem reps_span (w:World) (p:Nat→Prop):∀l:List Span,Reps w p (spanV l) (l.flatMap spanC)
 | []=>Reps.nil _ _
 | s::r=>by
  rw[spanV,List.flatMap_cons,List.flatMap_cons]
  exact Reps.append (Reps.cons (Rep.int _ _ _ _) (Reps.cons (Rep.int _ _ _ _) (Reps.nil _ _))) (reps_span w p r)
theorem reps_spanV {w:World} {p:Nat→Prop} {us:List Value} {l:List Span} (h:Reps w p us (l.flatMap spanC)):us=spanV l:=by
 have h2:=reps_span w p l
 refine List.ext_getElem (by rw[h.1,h2.1]) fun k h3 h4=> ?_
 have h5:k< (l.flatMap spanC).length:=by rw[←h.1];exact h3
 have a:=h.2 k _ _ (List.getElem?_eq_getElem h3) (List.getElem?_eq_getElem h5)
 have b:=h2.2 k _ _ (List.getElem?_eq_getElem h4) (List.getElem?_eq_getElem h5)
 obtain⟨x,_,hx⟩:=List.mem_flatMap.1 (List.getElem_mem h5)
 have:∃n:Int,(l.flatMap spanC)[k]= .v (.int .i64 n):=by
  simp only[spanC,List.mem_cons,List.not_mem_nil,or_false]at hx
  rcases hx with e | e<;> exact⟨_,e⟩
 obtain⟨n,hn⟩:=this
 rw[hn]at a b
 rw[a.is,b.is]
theorem putS_snoc (t s:Span):∀l:List Span,putS (l++ [t]) s=if s.a≤t.b+1 then l++ [⟨t.a,if t.b< s.b then s.b else t.b⟩]else l++ [t,s]
 | []=>rfl
 | [u]=>by
  show u::putS [t] s=_
  rw[putS];split<;> rfl
 | u::x::r=>by
  have:=putS_snoc t s (x::r)
  show u::putS (x::r++ [t]) s=_
  rw[this];split<;> rfl
theorem store_int {P:Program} {W:World} {b o:Nat} {u:Value} (t:TypeId) (hs:∀W,(sizeOf t).run P W= .ok 1 W) (hc:W.cell? ⟨b,o,none⟩=some u) (hf:W.frozen? ⟨b,o,none⟩=false) (n:Int):
  (Instr.storeAt t (.pointer (some ⟨b,o,none⟩)) (.int .i64 n)).run P W= .ok () (W.setCell ⟨b,o,none⟩ (.int .i64 n)):=by
 go_simp
theorem iput_any (l:List Span) (s:Span) (base:Nat) (dv:Value) (w:World) (hrow:w.ownsRow base 89 2 dv l.length (spanV l)) (hl:l.length≤1000) (hb:∀t∈l,0≤t.b∧t.b≤1000) (hbs:base≤w.heap.size):
  Calls Tryz.prog 95 #[dv,.agg #[.int .i64 s.a,.int .i64 s.b]] w fun e w'=>(∃v',e= .returned v'∧w'.ownsRow base 89 2 v' (putS l s).length (spanV (putS l s)))∧Below base w w':=by
 obtain⟨i0,hi,hz0,hz1,hz2⟩:=info_parts infoSpan
 obtain⟨wa,hwa⟩:∃W,w.alloc (.cells #[.int .i64 s.a,.int .i64 s.b] 89)=W:=⟨_,rfl⟩
 have hEa:Ext w wa:=by rw[←hwa];exact(Ext.refl w).alloc _
 have hrowa:=rows_ext hrow hEa
 have hba:wa.heap[w.heap.size]? =some (.cells [.int .i64 s.a,.int .i64 s.b].toArray 89 (0,0)):=by rw[←hwa];exact Array.getElem?_push_size
 have k0:=blk_cells hba 0 rfl;have k1:=blk_cells hba 1 rfl
 have lw:=blk_lt hba
 have hsa:=hEa.size
 have HE:=Lh hEa
 clear hEa hba
 rcases List.eq_nil_or_concat l with rfl | ⟨i,t,rfl⟩
 ·
  have hrow0:=hrow
  obtain⟨oa,oc,rfl⟩:=own_form hrow
  simp only[List.length_nil]at*
  go_enter Tryz.func95,Tryz.ntmps95
  go_wp2_with fail
  go_quiet (fail)
  go_wp2_with (at_builtin;refine wpList_append_own_at _ rfl (.tmp 37) (.tmp 39) _ rfl base 89 i0 (.agg #[.int .i64 0,.int .i64 0]) 2 16 Tryz.underlying28 hi hz0 hz1 hz2 rfl kD (.slice oa 0 oc) 0 (spanV []) rfl (rows_ext hrowa (((Ext.refl wa).drewN _).alloc _)) ⟨wa.heap.size,0,none⟩ 1 1 [.int .i64 s.a,.int .i64 s.b] rfl rfl new_two kG kC kA kM ?_;intro v2 w3 hown2 hgrow2 _ hat2)
  have hBl:Below base w w3:=Below.grown ((Below.mono (((HE.out.trans (((Ext.refl wa).drewN _).alloc _)))) hbs)) hgrow2 kM fun k hk=>(hrow0.lt k hk).1
  go_wp2_with fail
  go_ret
  exact⟨⟨v2,rfl,by simpa [putS,spanV]using hown2⟩,hBl⟩
 ·
  rw[List.concat_eq_append]at*
  obtain⟨mq,hm⟩:∃mq,i.length=mq:=⟨_,rfl⟩
  have hlen:(i++ [t]).length=mq+1:=by rw[List.length_append,hm];rfl
  rw[hlen]at hrow hrowa hl
  obtain⟨g,cap,rfl,hg,hbg⟩:=own_some hrow kA
  have ht:=hb t kI
  have hV:spanV (i++ [t])=spanV i++ [.int .i64 t.a,.int .i64 t.b]:=spanV_append _ _
  have hVl:(spanV i).length=mq*2:=by rw[spanV_len,hm]
  have gc1:wa.cell? ⟨g,mq*2+1,none⟩=some (.int .i64 t.b):=by
   rw[hrowa.cellAt _ kA,hV,List.getElem?_append_right kA,hVl]
   simp
  have fc1:=hrowa.frozenAt (mq*2+1)
  have lg:g< wa.heap.size:=Nat.lt_of_lt_of_le hg hsa
  have HV:=Lh (And.intro hV (And.intro hVl (And.intro hlen hrow)))
  have w1:IntKind.i64.wrap (((mq+1:Nat):Int) - 1)=(mq:Int):=by rw[show((mq+1:Nat):Int) - 1=(mq:Int) by omega];exact IntWalk.i64_in _ kA
  have w2:IntKind.i64.wrap (t.b+1)=t.b+1:=IntWalk.i64_in _ kA
  have w3:IntKind.i64.wrap ((mq:Int)+1 - 1)=(mq:Int):=by rw[show(mq:Int)+1 - 1=(mq:Int) by omega];exact IntWalk.i64_in _ kA
  have p1:(0:Int)< ((mq+1:Nat):Int):=by omega
  have p2:(0:Int)< (mq:Int)+1:=by omega
  have p3:=decide_eq_true p2
  have HP:=Lh (putS_snoc t s i)
  have htn:(mq:Int).toNat=mq:=Int.toNat_natCast mq
  have w4:IntKind.i64.wrap (mq:Int)=(mq:Int):=IntWalk.i64_in _ kA
  have hm0:=nZ0 mq
  have hm1:(mq:Int)< (mq:Int)+1:=by omega
  clear hV hVl hlen hb hm
  by_cases hc:s.a≤t.b+1
  ·
   have hcd:=decide_eq_true hc
   go_enter Tryz.func95,Tryz.ntmps95
   go_wp2_with fail
   go_quiet (fail)
   go_wp2_with fail
   obtain⟨wz,hwz⟩:∃W,wa.drewN nq=W:=⟨_,rfl⟩
   have hEz:Ext wa wz:=by rw[←hwz];exact(Ext.refl wa).drewN _
   have hrowz:=rows_ext hrowa hEz
   have gc1:=hEz.keep lg gc1
   have fc1:=hEz.free lg fc1
   have k1:=hEz.keep lw k1
   have lg:g< wz.heap.size:=Nat.lt_of_lt_of_le lg hEz.size
   have lw:w.heap.size< wz.heap.size:=Nat.lt_of_lt_of_le lw hEz.size
   rw[hwz]
   have HEZ:=Lh (And.intro hEz hrowz)
   clear hwz hEz hrowz hrowa hrow
   refine rg_cut (S:=Sx wz) 14 kB kB kB kB (Sx.begin _) ?_
   have hSc:Sx wz (World.drew wz):=(Sx.begin _)
   refine gT 0 22 (.slice (some ⟨g,0,none⟩) (mq+1) cap) hSc ?_
   simp only[Act.put,sA,sZ,sS]
   refine gT 1 23 (.int .i64 ((mq:Int)+1)) hSc ?_
   simp only[Act.put,sA,sZ,sS]
   refine gT 2 24 (.int .i64 (mq:Int)) hSc ?_
   simp only[Act.put,sA,sZ,sS]
   refine gT 3 25 (.slice (some ⟨g,0,none⟩) (mq+1) cap) hSc ?_
   simp only[Act.put,sA,sZ,sS]
   refine gT 4 26 (.int .i64 ((mq:Int)+1)) hSc ?_
   simp only[Act.put,sA,sZ,sS]
   refine gT 5 27 (.int .i64 (mq:Int)) hSc ?_
   simp only[Act.put,sA,sZ,sS]
   refine gT 6 28 (.pointer (some ⟨g,mq*2,none⟩)) hSc ?_
   simp only[Act.put,sA,sZ,sS]
   refine gT 7 29 (.pointer (some ⟨g,mq*2+1,none⟩)) hSc ?_
   simp only[Act.put,sA,sZ,sS]
   refine gT 8 30 (.int .i64 t.b) hSc ?_ (hv:=fun w' hs=>by(have h0:=hs.cell lg gc1;go_simp))
   simp only[Act.put,sA,sZ,sS]
   refine gT 9 31 (.pointer (some ⟨w.heap.size,1,none⟩)) hSc ?_
   simp only[Act.put,sA,sZ,sS]
   refine gT 10 32 (.int .i64 s.b) hSc ?_ (hv:=fun w' hs=>by(have h0:=hs.cell lw k1;go_simp))
   simp only[Act.put,sA,sZ,sS]
   refine gT 11 33 (.int .i64 (if t.b< s.b then s.b else t.b)) hSc ?_ (hv:=fun w' hs=>by first | rfl | (go_simp;done) | (go_simp;exact imax_if _ _))
   simp only[Act.put,sA,sZ,sS]
   refine gT 12 34 (.pointer (some ⟨g,mq*2,none⟩)) hSc ?_
   simp only[Act.put,sA,sZ,sS]
   refine gT 13 35 (.pointer (some ⟨g,mq*2+1,none⟩)) hSc ?_
   simp only[Act.put,sA,sZ,sS]
   have gcz:=hSc.cell lg gc1
   have fcz:=hSc.free lg fc1
   refine rg_done kB ?_
   refine rg_go 1 #[true,true,true,true,true,true,true,true,true,true,true,true,true,true,false] kB kB fun m=> ?_
   refine rg_write 14 none ((World.drew wz).setCell ⟨g,mq*2+1,none⟩ (.int .i64 (if t.b< s.b then s.b else t.b))) rfl rfl kB (by rfl) (exec_store rfl (store_int _ s1Int gcz fcz _)) trivial ?_
   simp only[Act.put,sA,sZ,sS]
   refine rg_done kB ?_
   obtain⟨mx,hmx⟩:∃x,(if t.b< s.b then s.b else t.b)=x:=⟨_,rfl⟩
   obtain⟨hEz,hrowz⟩:=HEZ.out
   have hrowd:=rows_ext hrowz ((Ext.refl wz).drew)
   obtain⟨hs1,hs2⟩:=hrowd.stored (mq*2+1) (.int .i64 mx)
   have hBl:Below base w ((World.drew wz).setCell ⟨g,mq*2+1,none⟩ (.int .i64 mx)):=Below.setCell (Below.mono ((HE.out.trans hEz).drew) hbs) hbg _
   have hset:(spanV (i++ [t])).set (mq*2+1) (.int .i64 mx)=spanV (i++ [⟨t.a,mx⟩]):=by
    rw[HV.out.1,spanV_append,List.set_append_right _ _ (by rw[HV.out.2.1];omega),HV.out.2.1,show mq*2+1 - mq*2=1 by omega];rfl
   rw[hset]at hs1
   rw[hmx]at HP⊢
   obtain⟨wf,hwf⟩:∃W,(World.drew wz).setCell ⟨g,mq*2+1,none⟩ (.int .i64 mx)=W:=⟨_,rfl⟩
   rw[hwf]at hs1 hBl⊢
   have hfin:=Lh (And.intro hs1 hBl)
   clear hs1 hs2 hBl hset hrowd hrowz hEz HEZ hSc hwf hmx
   simp only[Exit.then]
   go_wp2_with fail
   go_ret
   refine⟨⟨_,rfl,?_⟩,hfin.out.2⟩
   rw[HP.out,if_pos kA]
   have h1:=hfin.out.1
   have e1:(i++ [(⟨t.a,mx⟩:Span)]).length=mq+1:=by have:=HV.out.2.2.1;rw[List.length_append]at this⊢;exact this
   rw[e1];exact h1
  ·
   have hcd:=decide_eq_false hc
   go_enter Tryz.func95,Tryz.ntmps95
   go_wp2_with fail
   go_quiet (fail)
   go_wp2_with (at_builtin;refine wpList_append_own_at _ rfl (.tmp 37) (.tmp 39) _ rfl base 89 i0 (.agg #[.int .i64 0,.int .i64 0]) 2 16 Tryz.underlying28 hi hz0 hz1 hz2 rfl kD (.slice (some ⟨g,0,none⟩) (mq+1) cap) (mq+1) (spanV (i++ [t])) rfl (rows_ext hrowa (((Ext.refl wa).drewN _).alloc _)) ⟨wa.heap.size,0,none⟩ 1 1 [.int .i64 s.a,.int .i64 s.b] rfl rfl new_two kG kC kA kM ?_;intro v2 w3 hown2 hgrow2 _ hat2)
   have hBl:Below base w w3:=Below.grown ((Below.mono (((HE.out.trans (((Ext.refl wa).drewN _).alloc _)))) hbs)) hgrow2 kM fun k hk=>(HV.out.2.2.2.lt k hk).1
   go_wp2_with fail
   go_ret
   refine⟨⟨v2,rfl,?_⟩,hBl⟩
   rw[HP.out,if_neg kA,List.append_cons,List.length_append,HV.out.2.2.1,spanV_append]
   exact hown2
theorem undInt:Tryz.prog.underlying 3=some (.int .i64):=by kernel_rfl
theorem grow_any (n:Nat) (hn:n≤100000) (w:World):
  Calls Tryz.prog 134 #[.slice none 0 0,.int .i64 n] w fun e w'=>(∃v',e= .returned v'∧w'.ownsRow w.heap.size 89 2 v' 0 [])∧Ext w w':=by
 obtain⟨i0,hi,hz0,hz1,hz2⟩:=info_parts infoSpan
 by_cases h0:n=0
 ·
  subst h0
  go_enter Tryz.func134,Tryz.ntmps134
  go_wp2_with fail
  go_ret
  exact⟨⟨_,rfl,World.ownsRow_nil _ _ _ _⟩,Ext.refl _⟩
 ·
  have p0:(0:Int)< (n:Int):=by omega
  have p1:¬(n:Int)< 0:=by omega
  have hr:=Lib.run_append_nil_zeros (P:=Tryz.prog) w 28 3 28 89 i0 (.agg #[.int .i64 0,.int .i64 0]) .i64 .i64 Tryz.underlying28 undInt hi hz0 n kA kA kA (by rw[hz2];omega)
  have hcap:=grownCap_ge w n 0 89
  have hcm:=grownCap_le_maxLen w n 0 89 kC
  obtain⟨cap,hcapE⟩:∃c,grownCap w n 0 89=c:=⟨_,rfl⟩
  rw[hcapE]at hr hcap hcm
  obtain⟨cs,hcs⟩:∃c,Builtin.zeroCells (Value.agg #[.int .i64 0,.int .i64 0]).cells n++Builtin.zeroCells (Value.agg #[.int .i64 0,.int .i64 0]).cells (cap - n)=c:=⟨_,rfl⟩
  have hsz:cs.size=cap*2:=by
   rw[←hcs,Array.size_append,size_zeroCells,size_zeroCells]
   show n*2+(cap - n)*2=cap*2
   omega
  rw[hcs]at hr
  have hown:(w.drew.alloc (.cells cs 89)).ownsRow w.heap.size 89 2 (.slice (some ⟨w.drew.heap.size,0,none⟩) 0 cap) 0 []:=World.ownsRow_made _ cs cap kI hcm hsz
  obtain⟨w1,hw1⟩:∃W,w.drew.alloc (.cells cs 89)=W:=⟨_,rfl⟩
  have hE1:Ext w w1:=by rw[←hw1];exact((Ext.refl w).drew).alloc _
  rw[hw1]at hr hown
  have HR:=Lh hr
  have HE:=Lh (And.intro hown hE1)
  have hcapi:=nZ0 cap
  clear hr hown hE1 hw1 hsz hcs hcapE hcm hz0 hz1 hz2 hi
  go_enter Tryz.func134,Tryz.ntmps134
  go_wp2_with (at_builtin;refine Lib.wpList_append_run _ rfl _ _ _ _ rfl _ _ rfl rfl _ _ HR.out ?_)
  go_ret
  exact⟨⟨_,rfl,HE.out.1⟩,HE.out.2⟩
def spssD (l:List (List Span)):DV:= .s 1 (l.flatMap fun x=> [spansD x])
theorem z_spss (x:List Span):([spansD x]:List DV).length=1:=rfl
theorem spss_at {w:World} {p:Nat→Prop} {a:Option Addr} {len cap:Nat} {l:List (List Span)} (h:Rep w p (.slice a len cap) (spssD l)) (i:Nat) (hi:i< l.length):
  ∃(b off:Nat) (sa:Option Addr) (sc:Nat),a=some ⟨b,off,none⟩∧b< w.heap.size∧w.cell? ⟨b,off+i,none⟩=some (.slice sa l[i].length sc)∧Rep w p (.slice sa l[i].length sc) (spansD l[i]):=by
 obtain⟨b,off,ha,hb,_,hc⟩:=elem_at z_spss h kA i hi
 obtain⟨u,hu,hr⟩:=hc 0 _ rfl
 obtain⟨sa,sc,rfl,_,_⟩:=hr.count z_span kA
 rw[Nat.mul_one,Nat.add_zero]at hu
 exact⟨b,off,sa,sc,ha,hb,hu,hr⟩
theorem sp_take {α:Type} (L:List (List α)) (i:Nat) (h:i< L.length):(L.take (i+1)).flatten=(L.take i).flatten++L[i]:=by
 rw[List.take_add_one,List.getElem?_eq_getElem h,List.flatten_append];simp
theorem sp_take_len {α:Type} (L:List (List α)) (i:Nat):(L.take i).flatten.length≤L.flatten.length:=by
 conv=>rhs;rw[←List.take_append_drop i L,List.flatten_append,List.length_append]
 omega
theorem concat_any (L:List (List Span)) (p:Nat→Prop) (v:Value) (w:World) (hT:L.flatten.length≤1000) (h:Rep w p v (spssD L)):
  Calls Tryz.prog 92 #[v] w fun e w'=>(∃v',e= .returned v'∧w'.ownsRow w.heap.size 89 2 v' L.flatten.length (spanV L.flatten))∧Ext w w':=by
 obtain⟨i0,hi,hz0,hz1,hz2⟩:=info_parts infoSpan
 obtain⟨a,c,rfl,hc1,hc2⟩:=h.count z_spss kA
 have HT:=Lh hT
 clear hT
 obtain⟨fl,hfl⟩:∃f,L.flatten=f:=⟨_,rfl⟩
 rw[hfl]
 have HFL:=Lh hfl
 clear hfl
 go_enter Tryz.func92,Tryz.ntmps92
 go_wp2_with fail
 go_loopw [3,5,11] (fun z _ t wr=>∃(i n:Nat),t= .int .i64 i∧z= .int .i64 n∧i≤L.length∧wr=w∧Hid (n=(L.take i).flatten.length)) (fun _ _ t _=>downV L.length t)
 case atStart=>exact⟨0,0,rfl,rfl,Nat.zero_le _,rfl,Lh kI⟩
 case round=>
  obtain⟨i,n,rfl,rfl,hil,rfl,HN⟩:=hrel
  have hi0:=nZ0 i
  by_cases hlt:i< L.length
  ·
   have hlI:(i:Int)< (L.length:Int):=by omega
   obtain⟨b,off,sa,sc,rfl,lb,d0,hr⟩:=spss_at h i hlt
   have HS:Hid (n+L[i].length=(L.take (i+1)).flatten.length):=Lh (by rw[sp_take L i hlt,List.length_append,HN.out])
   have hle:n+L[i].length≤1000:=by rw[HS.out];exact Nat.le_trans (sp_take_len L _) HT.out
   obtain⟨m,hm⟩:∃m,L[i].length=m:=⟨_,rfl⟩
   rw[hm]at d0 hle HS
   have hnn:¬(n:Int)+(m:Int)< 0:=by omega
   clear hm hr
   go_wp2_with fail
   go_roundw
   case rel=>exact⟨i+1,n+m,by go_num,by go_num,by omega,trivial,HS⟩
   case measure=>exact mZ
  ·
   have hlI:¬(i:Int)< (L.length:Int):=by omega
   have hn:n=L.flatten.length:=by rw[HN.out,List.take_of_length_le kA]
   have hn1:n≤1000:=by rw[hn];exact HT.out
   clear hn HN
   obtain⟨w0,hw0⟩:∃w0,w0=wr:=⟨_,rfl⟩
   subst hw0
   go_wp2_with fail
   refine(grow_any n kA w0).mono ?_
   rintro e w1 ⟨⟨gv,rfl,hrow⟩,hB1⟩
   have HR1:=Lh hrow
   clear hrow
   go_wp2_with fail
   go_loopw [6,8,27] (fun o _ t wr2=>∃(i:Nat) (dv:Value),t= .int .i64 i∧dv=o∧i≤L.length∧Ext w0 wr2∧Hid (wr2.ownsRow w0.heap.size 89 2 dv (L.take i).flatten.length (spanV (L.take i).flatten))) (fun _ _ t _=>downV L.length t)
   case atStart=>exact⟨0,gv,rfl,rfl,Nat.zero_le _,hB1,Lh (by simpa [spanV]using HR1.out)⟩
   case round=>
    clear HR1
    obtain⟨i,dv,rfl,rfl,hil2,hX,HH⟩:=hrel
    have hi0:=nZ0 i
    by_cases hlt:i< L.length
    ·
     have hlI:(i:Int)< (L.length:Int):=by omega
     obtain⟨b,off,sa,sc,rfl,lb,d0,hr⟩:=spss_at (h.ext hX) i hlt
     have HS:Hid ((L.take (i+1)).flatten=(L.take i).flatten++L[i]):=Lh (sp_take L i hlt)
     have hle:(L.take i).flatten.length+L[i].length≤1000:=by rw[←List.length_append,←HS.out];exact Nat.le_trans (sp_take_len L _) HT.out
     obtain⟨x,hx⟩:∃x,L[i]=x:=⟨_,rfl⟩
     rw[hx]at d0 hle HS hr
     obtain⟨y,hy⟩:∃y,(L.take i).flatten=y:=⟨_,rfl⟩
     rw[hy]at hle HS HH
     clear hx hy
     obtain⟨wo,hwo⟩:∃wo,wo=wr:=⟨_,rfl⟩
     subst hwo
     have hbz:=hX.size
     cases sa with
     | none=>
      obtain⟨h0,h1,h2⟩:=rep_none hr
      have hx0:x= []:=List.eq_nil_of_length_eq_zero h0
      subst hx0
      subst h1
      clear h0 h2 hr
      go_wp2_with (at_builtin;refine wpList_append_own_none rfl (.tmp 31) (.tmp 32) 28 rfl w0.heap.size 89 i0 2 Tryz.underlying28 hi dv y.length (spanV y) rfl HH.out rfl ?_)
      go_roundw
      case rel=>exact⟨i+1,dv,by go_num,rfl,by omega,hX,by rw[HS.out,List.append_nil];exact HH⟩
      case measure=>exact mZ
     | some ad=>
      obtain⟨us,hus,hul,hcells⟩:=rep_some hr
      have hue:=reps_spanV hus
      subst hue
      have hone:∀u∈spanV x,u.oneCell'=true:=fun u hu=>by
       unfold spanV at hu
       obtain⟨s,_,hs⟩:=List.mem_flatMap.1 hu
       simp at hs
       rcases hs with rfl | rfl<;> rfl
      have hlow:=fun k hk=>(HH.out.lt k hk).1
      have HL:=Lh hlow
      clear hus hr hlow
      go_wp2_with (at_builtin;refine wpList_append_own_at _ rfl (.tmp 31) (.tmp 32) _ rfl w0.heap.size 89 i0 (.agg #[.int .i64 0,.int .i64 0]) 2 16 Tryz.underlying28 hi hz0 hz1 hz2 rfl kD dv y.length (spanV y) rfl HH.out ad x.length sc (spanV x) rfl hul hcells hone kC kA kA ?_;intro v2 w3 hown3 hgrow3 _ hat3)
      have hX3:Ext w0 w3:=Below.grown hX hgrow3 hX.size HL.out
      have hO3:Hid (w3.ownsRow w0.heap.size 89 2 v2 (L.take (i+1)).flatten.length (spanV (L.take (i+1)).flatten)):=Lh (by rw[HS.out,List.length_append,spanV_append];exact hown3)
      clear hown3 hgrow3 hat3 hone hcells hul HH HS
      go_wp2_with fail
      go_roundw
      case rel=>exact⟨i+1,v2,by go_num,rfl,by omega,hX3,hO3⟩
      case measure=>exact mZ
    ·
     have hlI:¬(i:Int)< (L.length:Int):=by omega
     have hfin:=HH.out
     rw[List.take_of_length_le kA,HFL.out]at hfin
     have HF:=Lh hfin
     clear HH hfin
     go_wp2_with fail
     go_ret
     exact⟨⟨_,rfl,HF.out⟩,hX⟩
theorem putS_b (P:Int→Prop):∀(l:List Span) (s:Span),(∀t∈l,P t.b)→P s.b→∀t∈putS l s,P t.b
 | [],s,_,h,t,ht=>by rw[putS,List.mem_singleton]at ht;rw[ht];exact h
 | [u],s,hl,h,t,ht=>by
  rw[putS]at ht
  split at ht
  ·
   rw[List.mem_singleton]at ht
   rw[ht]
   simp only
   split
   ·
    exact h
   ·
    exact hl u kI
  ·
   simp only[List.mem_cons,List.not_mem_nil,or_false]at ht
   rcases ht with e | e
   ·
    rw[e];exact hl u kI
   ·
    rw[e];exact h
 | u::x::r,s,hl,h,t,ht=>by
  rw[putS]at ht
  rcases List.mem_cons.1 ht with e | ht
  ·
   rw[e];exact hl u kI
  ·
   exact putS_b P (x::r) s (fun t ht=>hl t (List.mem_cons_of_mem _ ht)) h t ht
theorem putS_len:∀(l:List Span) (s:Span),(putS l s).length≤l.length+1
 | [],s=>by simp[putS]
 | [u],s=>by rw[putS];split<;> simp
 | u::x::r,s=>by have:=putS_len (x::r) s;rw[putS];simp only[List.length_cons]at*;omega
theorem putF_b (l:List Span) (hl:∀t∈l,0≤t.b∧t.b≤1000):∀(i:Nat),∀t∈(l.take i).foldl putS [],0≤t.b∧t.b≤1000:=by
 have h:∀(r acc:List Span),(∀t∈r,0≤t.b∧t.b≤1000)→(∀t∈acc,0≤t.b∧t.b≤1000)→∀t∈r.foldl putS acc,0≤t.b∧t.b≤1000:=by
  intro r
  induction r with
  | nil=>intro acc _ h;exact h
  | cons s r ih=>intro acc hr ha;exact ih _ (fun t ht=>hr t (List.mem_cons_of_mem _ ht)) (putS_b (fun b=>0≤b∧b≤1000) acc s ha (hr s List.mem_cons_self))
 exact fun i=>h _ _ (fun t ht=>hl t (List.mem_of_mem_take ht)) (fun t ht=>(by cases ht))
theorem putF_len (l:List Span) (i:Nat):((l.take i).foldl putS []).length≤i:=by
 have h:∀(r acc:List Span),(r.foldl putS acc).length≤acc.length+r.length:=by
  intro r
  induction r with
  | nil=>intro acc;simp
  | cons s r ih=>intro acc;have h1:=ih (putS acc s);have h2:=putS_len acc s;simp only[List.foldl_cons,List.length_cons];omega
 have:=h (l.take i) []
 simp only[List.length_nil,List.length_take]at this
 omega
structure Sp where
 s:Span
 h:0≤s.a∧s.a≤1000
instance spInh:Inhabited Sp:=⟨⟨⟨0,0⟩,by simp⟩⟩
def encSp (x:Sp):List Value:= [.int .i64 x.s.a,.int .i64 x.s.b]
def cfSp (x y:Sp):Int:=x.s.a - y.s.a
theorem spanV_get:∀(l:List Span) (i:Nat) (h:i< l.length),(spanV l)[i*2]? =some (.int .i64 l[i].a)∧(spanV l)[i*2+1]? =some (.int .i64 l[i].b)
 | [],_,h=>absurd h (Nat.not_lt_zero _)
 | s::r,0,_=>⟨rfl,rfl⟩
 | s::r,i+1,h=>by
  obtain⟨h1,h2⟩:=spanV_get r i kJ
  have e:spanV (s::r)= .int .i64 s.a:: .int .i64 s.b::spanV r:=rfl
  rw[e,show(i+1)*2=i*2+1+1 by omega]
  exact⟨by simpa using h1,by simpa using h2⟩
def spArr (l:List Span) (hb:∀t∈l,0≤t.a∧t.a≤1000):Array Sp:=(l.pmap (fun s h=>(⟨s,h⟩:Sp)) hb).toArray
theorem spArr_size (l:List Span) (hb:∀t∈l,0≤t.a∧t.a≤1000):(spArr l hb).size=l.length:=by simp[spArr]
theorem spArr_get (l:List Span) (hb:∀t∈l,0≤t.a∧t.a≤1000) (i:Nat) (h:i< l.length):(spArr l hb)[i]!.s=l[i]:=by
 rw[getElem!_pos _ i (by rw[spArr_size];exact h)]
 simp[spArr]
theorem spArr_flat (l:List Span) (hb:∀t∈l,0≤t.a∧t.a≤1000) (j:Nat) (h:j< l.length*2):(spanV l)[j]? =some (Go.Sort.flatK encSp 2 (spArr l hb))[j]! :=by
 rw[Go.Sort.get_flatK _ _ _ j (by rw[spArr_size];exact h)]
 have hi:j / 2< l.length:=by omega
 obtain⟨h1,h2⟩:=spanV_get l (j / 2) hi
 have hg:=spArr_get l hb (j / 2) hi
 unfold encSp
 rw[hg]
 rcases Nat.mod_two_eq_zero_or_one j with h0 | h0
 ·
  rw[h0]
  have:j / 2*2=j:=by omega
  rw[this]at h1;exact h1
 ·
  rw[h0]
  have:j / 2*2+1=j:=by omega
  rw[this]at h2;exact h2
theorem cls_any (x y:Sp) (W:World):Calls Tryz.prog 94 #[.agg #[.int .i64 x.s.a,.int .i64 x.s.b],.agg #[.int .i64 y.s.a,.int .i64 y.s.b]] W fun e w'=>e= .returned (.int .i64 (cfSp x y))∧∃q os',w'=Go.Sort.grow (W.drewN q) os':=by
 have h1:=x.h
 have h2:=y.h
 unfold cfSp
 obtain⟨⟨xa,xb⟩,hx⟩:=x
 obtain⟨⟨ya,yb⟩,hy⟩:=y
 simp only at h1 h2⊢
 go_enter Tryz.func94,Tryz.ntmps94
 go_wp2_with fail
 go_ret
 exact⟨rfl,0,_,by rw[Go.Sort.alloc_eq_grow,Go.Sort.alloc_eq_grow,Go.Sort.grow_grow];rfl⟩
theorem may_count (v:Int):∀(l:List Span) (lo:Int),mayG lo l→(∀t∈l,t.b< v)→lo≤v+1→2*(l.length:Int)≤v - lo+1
 | [],lo,_,_,h=>by simp;omega
 | s::r,lo,⟨h1,h2,h3,h4⟩,hl,_=>by
  have hs:=hl s kI
  have:=may_count v r (s.b+2) h4 (fun t ht=>hl t (List.mem_cons_of_mem _ ht)) kA
  simp only[List.length_cons,Int.natCast_add]
  omega
theorem putS_gen:∀(l:List Span) (lo:Int) (s:Span),mayG lo l→(∀t∈l,t.a≤s.a)→lo≤s.a→s.a≤s.b→s.b≤200→
  mayG lo (putS l s)∧(∀v,inS (putS l s) v=(inS l v || decide (s.a≤v∧v≤s.b)))∧∀t∈putS l s,t.a≤s.a
 | [],lo,s,_,_,h1,h2,h3=>by
  rw[putS]
  refine⟨⟨h1,h2,h3,trivial⟩,fun v=>by simp[inS],fun t ht=> ?_⟩
  rw[List.mem_singleton]at ht;rw[ht];exact Int.le_refl _
 | [u],lo,s,hm,ha,h1,h2,h3=>by
  obtain⟨a1,a2,a3,_⟩:=hm
  have hu:=ha u kI
  rw[putS]
  by_cases c:s.a≤u.b+1
  ·
   rw[if_pos c]
   refine⟨⟨a1,?_,?_,trivial⟩,fun v=> ?_,fun t ht=> ?_⟩
   ·
    simp only;split<;> omega
   ·
    simp only;split<;> omega
   ·
    simp only[inS,List.any_cons,List.any_nil,Bool.or_false]
    rw[Bool.eq_iff_iff,Bool.or_eq_true,decide_eq_true_iff,decide_eq_true_iff,decide_eq_true_iff]
    split<;> omega
   ·
    rw[List.mem_singleton]at ht;rw[ht];exact hu
  ·
   rw[if_neg c]
   refine⟨⟨a1,a2,a3,by omega,h2,h3,trivial⟩,fun v=>by simp[inS],fun t ht=> ?_⟩
   simp only[List.mem_cons,List.not_mem_nil,or_false]at ht
   rcases ht with e | e<;> rw[e]
   ·
    exact hu
   ·
    exact Int.le_refl _
 | u::x::r,lo,s,hm,ha,h1,h2,h3=>by
  obtain⟨a1,a2,a3,a4⟩:=hm
  have hx:=ha x kI
  have h5:u.b+2≤x.a:=a4.1
  obtain⟨b1,b2,b3⟩:=putS_gen (x::r) (u.b+2) s a4 (fun t ht=>ha t (List.mem_cons_of_mem _ ht)) kA h2 h3
  rw[putS]
  refine⟨⟨a1,a2,a3,b1⟩,fun v=> ?_,fun t ht=> ?_⟩
  ·
   have:=b2 v
   unfold inS at this⊢
   rw[List.any_cons,this]
   simp only[List.any_cons,Bool.or_assoc]
  ·
   rcases List.mem_cons.1 ht with e | ht
   ·
    rw[e];exact ha u kI
   ·
    exact b3 t ht
theorem putF_gen:∀(r acc:List Span),mayG 1 acc→(∀t∈acc,∀s∈r,t.a≤s.a)→r.Pairwise (fun x y=>x.a≤y.a)→(∀s∈r,1≤s.a∧s.a≤s.b∧s.b≤200)→
  mayG 1 (r.foldl putS acc)∧∀v,inS (r.foldl putS acc) v=(inS acc v || inS r v)
 | [],acc,h,_,_,_=>⟨h,fun v=>by simp[inS]⟩
 | s::r,acc,h,ha,hp,hb=>by
  obtain⟨p1,p2⟩:=List.pairwise_cons.1 hp
  have hs:=hb s kI
  obtain⟨b1,b2,b3⟩:=putS_gen acc 1 s h (fun t ht=>ha t ht s kI) hs.1 hs.2.1 hs.2.2
  obtain⟨c1,c2⟩:=putF_gen r (putS acc s) b1 (fun t ht y hy=>Int.le_trans (b3 t ht) (p1 y hy)) p2 (fun y hy=>hb y (List.mem_cons_of_mem _ hy))
  refine⟨c1,fun v=> ?_⟩
  rw[List.foldl_cons,c2,b2]
  unfold inS
  rw[List.any_cons,Bool.or_assoc]
theorem inS_perm {l m:List Span} (h:l.Perm m) (v:Int):inS l v=inS m v:=by
 unfold inS
 rw[Bool.eq_iff_iff,List.any_eq_true,List.any_eq_true]
 constructor
 ·
  rintro⟨t,ht,h1⟩;exact⟨t,h.mem_iff.1 ht,h1⟩
 ·
  rintro⟨t,ht,h1⟩;exact⟨t,h.mem_iff.2 ht,h1⟩
theorem inS_append (l m:List Span) (v:Int):inS (l++m) v=(inS l v || inS m v):=by unfold inS;rw[List.any_append]
theorem spans_rng (f:Nat→Bool):∀t∈spansOf f,1≤t.a∧t.a≤t.b∧t.b≤200:=mayG_head _ 1 (spansOf_may f)
theorem spans_12 (f:Nat→Bool) (hf:∀j,13≤j→f j=false):(∀t∈spansOf f,1≤t.a∧t.a≤t.b∧t.b< 13)∧(spansOf f).length≤6:=by
 have h1:∀t∈spansOf f,1≤t.a∧t.a≤t.b∧t.b< 13:=fun t ht=>by
  have hr:=spans_rng f t ht
  refine⟨hr.1,hr.2.1,?_⟩
  have h2:=inS_mem ht (v:=t.b) hr.2.1 (Int.le_refl _)
  rw[inS_of,Bool.and_eq_true]at h2
  by_cases c:13≤t.b.toNat
  ·
   rw[hf _ c]at h2;cases h2.2
  ·
   omega
 have h3:=may_count 13 (spansOf f) 1 (spansOf_may f) (fun t ht=>(h1 t ht).2.2) kA
 exact⟨h1,by omega⟩
theorem union_law (f g:Nat→Bool) (l:List Span) (hp:l.Perm (spansOf f++spansOf g)) (hs:l.Pairwise (fun x y=>x.a≤y.a)):l.foldl putS []=spansOf fun j=>f j || g j:=by
 obtain⟨h1,h2⟩:=putF_gen l [] trivial (fun t ht=>by cases ht) hs (fun s hs=>by
  rcases List.mem_append.1 (hp.mem_iff.1 hs)with h | h
  ·
   exact spans_rng f s h
  ·
   exact spans_rng g s h)
 refine mayG_uniq _ _ 1 h1 (spansOf_may _) fun v=> ?_
 rw[h2,inS_perm hp,inS_append,inS_of,inS_of,inS_of]
 cases decide (1≤v∧v≤200)<;> simp[inS]
theorem flat_list (d:Array Sp):(Go.Sort.flatK encSp 2 d).toList=spanV (d.toList.map (·.s)):=by
 refine List.ext_getElem? fun j=> ?_
 by_cases hj:j< d.size*2
 ·
  have hlen:(d.toList.map (·.s)).length=d.size:=by simp
  have hi:j / 2< (d.toList.map (·.s)).length:=by rw[hlen];omega
  have hi2:j / 2< d.size:=by omega
  obtain⟨h1,h2⟩:=spanV_get (d.toList.map (·.s)) (j / 2) hi
  have e0:(d.toList.map (·.s))[j / 2]=d[j / 2].s:=by simp
  rw[e0]at h1 h2
  have hf:=Go.Sort.get_flatK encSp 2 d j hj
  rw[getElem!_pos d (j / 2) hi2]at hf
  rw[getElem!_pos _ j (by rw[Go.Sort.size_flatK];exact hj)]at hf
  have e1:(Go.Sort.flatK encSp 2 d).toList[j]? =some (encSp d[j / 2])[j % 2]! :=by
   rw[Array.getElem?_toList,Array.getElem?_eq_getElem (by rw[Go.Sort.size_flatK];exact hj),hf]
  rw[e1]
  rcases Nat.mod_two_eq_zero_or_one j with h0 | h0
  ·
   rw[h0]
   rw[show j / 2*2=j by omega]at h1
   rw[h1];rfl
  ·
   rw[h0]
   rw[show j / 2*2+1=j by omega]at h2
   rw[h2];rfl
 ·
  rw[List.getElem?_eq_none (by rw[Array.length_toList,Go.Sort.size_flatK];omega),List.getElem?_eq_none (by rw[spanV_len,List.length_map,Array.length_toList];omega)]
theorem take_cells (cur F:Array Value) (h:F.size≤cur.size):(Go.Sort.putCells id 0 F cur).toList.take F.size=F.toList:=by
 apply List.ext_getElem?
 intro j
 by_cases hj:j< F.size
 ·
  rw[List.getElem?_take_of_lt hj,Array.getElem?_toList]
  simp[Go.Sort.putCells,hj,show j< cur.size by omega]
 ·
  rw[List.getElem?_take_eq_none kA,List.getElem?_eq_none kM]
theorem sort_row {w:World} {base g cap n:Nat} {os:Array Obj} {l:List Span} {us:List Value} {d:Array Sp} (h:w.ownsRow base 89 2 (.slice (some ⟨g,0,none⟩) l.length cap) l.length us) (hd:d.size=l.length):
  (Go.Sort.grow (Go.Sort.putRow id (Go.Sort.ahead w n) g 0 (Go.Sort.flatK encSp 2 d)) os).ownsRow base 89 2 (.slice (some ⟨g,0,none⟩) l.length cap) l.length (spanV (d.toList.map (·.s)))∧
   w.grownBy (Go.Sort.grow (Go.Sort.putRow id (Go.Sort.ahead w n) g 0 (Go.Sort.flatK encSp 2 d)) os) (some g):=by
 constructor
 ·
  have hl:=h.1
  rcases h.2 with⟨hv,_⟩ | ⟨g',cap',cur,hv,hbase,hb,h1,h2,h3,h4⟩
  ·
   cases hv
  ·
   cases hv
   have hg:g< w.heap.size:=(Array.getElem?_eq_some_iff.1 hb).1
   refine⟨by rw[spanV_len,List.length_map,Array.length_toList,hd],.inr ⟨g,cap,Go.Sort.putCells id 0 (Go.Sort.flatK encSp 2 d) cur,rfl,hbase,?_,h1,h2,by simp[Go.Sort.putCells,h3],?_⟩⟩
   ·
    rw[Go.Sort.heap_grow_old _ _ (by simpa using hg)]
    simp[Go.Sort.putRow,Go.Sort.mapBlock,Go.Sort.ahead,Array.getElem?_modify,hb,Go.Sort.onCells]
   ·
    rw[←flat_list,←take_cells cur (Go.Sort.flatK encSp 2 d) (by rw[Go.Sort.size_flatK,h3,hd];exact Nat.mul_le_mul_right _ h1),Go.Sort.size_flatK,hd]
 ·
  refine⟨rfl,rfl,rfl,by simp,fun k hk hne=> ?_⟩
  rw[Go.Sort.heap_grow_old _ _ (by simpa using hk)]
  have:g≠k:=fun e=>hne (by rw[e])
  simp[Go.Sort.putRow,Go.Sort.mapBlock,Go.Sort.ahead,Array.getElem?_modify,this]
theorem swoSp:Go.Sort.SWO (Go.Proofs.ltOf cfSp):=by
 refine⟨fun x=>decide_eq_false (by unfold cfSp;omega),fun x y z h1 h2=> ?_,fun x y z h1 h2=> ?_⟩
 ·
  unfold Go.Proofs.ltOf cfSp at*
  rw[decide_eq_true_iff]at*;omega
 ·
  unfold Go.Proofs.ltOf cfSp at*
  rw[decide_eq_false_iff_not]at*;omega
theorem sortsp_any (l:List Span) (cap blk base:Nat) (w:World) (hb:∀t∈l,0≤t.a∧t.a≤1000) (hl:l.length≤12)
  (hrow:w.ownsRow base 89 2 (.slice (some ⟨blk,0,none⟩) l.length cap) l.length (spanV l)):
  Calls Tryz.prog 93 #[.slice (some ⟨blk,0,none⟩) l.length cap,.func (.func 94) #[] #[]] w fun e w'=>e= .returned (.tuple #[])∧
   (∃l':List Span,l'.Perm l∧l'.Pairwise (fun x y=>x.a≤y.a)∧w'.ownsRow base 89 2 (.slice (some ⟨blk,0,none⟩) l.length cap) l.length (spanV l'))∧w.grownBy w' (some blk):=by
 have hsz:=spArr_size l hb
 have eg:∀args w,(callFunc 94 args).run Tryz.prog w= .ok (.enter 94 args) w:=enters_of Tryz.func94 kB rfl
 have hblk:blk< w.heap.size:=(hrow.lt blk rfl).2
 have hH:Go.Sort.HoldsK encSp 2 w blk 0 (spArr l hb):=fun j hj=>by
  rw[Go.Sort.size_flatK,hsz]at hj
  rw[Nat.zero_add,hrow.cellAt j hj,spArr_flat l hb j hj]
  exact⟨rfl,hrow.frozenAt j⟩
 have h:=Go.Proofs.AnyQ.slices_SortFunc_small_sorted Tryz.sortSp 2 Tryz.isAgg89 Tryz.sizeOf89 encSp (fun _=>rfl) (fun x v hv=>by simp[encSp]at hv;rcases hv with rfl | rfl<;> rfl) cfSp 94 #[] swoSp blk 0 cap (spArr l hb) w eg (fun _ _ _ _ x y=>cls_any x y _) hH hblk (by rw[hsz];exact hl)
  (fun n W hn=>(Go.Proofs.Any.bits_Len Tryz.bitsLen n W kA kA).mono fun _ _ ⟨he,hw⟩=>⟨⟨_,he⟩,hw⟩)
 rw[hsz]at h
 refine Calls.mono h fun e w' ⟨he,d,n,os,hpm,hst,hw⟩=>⟨he,?_⟩
 have hds:d.size=l.length:=hpm.1.trans hsz
 have hr:=sort_row (n:=n) (os:=os) (d:=d) hrow hds
 rw[hw]
 unfold Go.Proofs.sortWorldK Go.Sort.putRowK
 refine⟨⟨d.toList.map (·.s),?_,?_,hr.1⟩,hr.2⟩
 ·
  have h1:=hpm.2.2
  rw[←hsz]at h1
  rw[Array.extract_size]at h1
  have e1:d.extract 0 (spArr l hb).size=d:=by rw[hsz,←hds];exact Array.extract_size
  rw[e1]at h1
  have h2:=h1.map (·.s)
  have e2:(spArr l hb).toList.map (·.s)=l:=by unfold spArr;rw[List.map_pmap];simp
  rw[e2]at h2
  exact h2
 ·
  rw[List.pairwise_map,List.pairwise_iff_getElem]
  intro i j hi hj hij
  rw[Array.length_toList]at hi hj
  have h1:=hst i j (Nat.zero_le _) hij kA
  rw[getElem!_pos d i hi,getElem!_pos d j hj]at h1
  unfold Go.Proofs.ltOf cfSp at h1
  rw[decide_eq_false_iff_not]at h1
  rw[Array.getElem_toList,Array.getElem_toList]
  omega
theorem uni_any (f g:Nat→Bool) (hf:∀j,13≤j→f j=false) (hg:∀j,13≤j→g j=false) (p:Nat→Prop) (va vb:Value) (w:World) (hne:spansOf f++spansOf g≠ []) (hva:Rep w p va (spansD (spansOf f))) (hvb:Rep w p vb (spansD (spansOf g))):
  Calls Tryz.prog 58 #[va,vb] w fun e w'=>Ret (fun c=>w.heap.size≤c) (spansD (spansOf fun j=>f j || g j)) e w'∧Ext w w':=by
 have hUL:=Lh (union_law f g)
 have ha:=mayI_of (spansOf f) 1 (-1) (spansOf_may f) kA (.inl kA)
 have hb:=mayI_of (spansOf g) 1 (-1) (spansOf_may g) kA (.inl kA)
 obtain⟨fa,fb⟩:=spans_12 f hf
 obtain⟨ga,gb⟩:=spans_12 g hg
 obtain⟨R,hR⟩:∃R,(spansOf fun j=>f j || g j)=R:=⟨_,rfl⟩
 obtain⟨a,hea⟩:∃a,spansOf f=a:=⟨_,rfl⟩
 obtain⟨b,heb⟩:∃b,spansOf g=b:=⟨_,rfl⟩
 rw[hR,hea,heb]at hUL
 rw[hR]
 rw[hea]at ha hva fa fb hne
 rw[heb]at hb hvb ga gb hne
 obtain⟨l,hle⟩:∃l,a++b=l:=⟨_,rfl⟩
 rw[hle]at hUL hne
 have hl:l.length≤12:=by rw[←hle,List.length_append];omega
 have h0:0< l.length:=List.length_pos_iff.2 hne
 have hbd:∀t∈l,0≤t.a∧t.a≤1000∧0≤t.b∧t.b≤1000:=fun t ht=>by
  rw[←hle]at ht
  rcases List.mem_append.1 ht with ht | ht
  ·
   have:=fa t ht;omega
  ·
   have:=ga t ht;omega
 clear hR hea heb fa fb ga gb hf hg hne
 have HM1:=Lh fun W (hE:Ext w W)=>may_set a p va W (hva.ext hE)
 have HM2:=Lh fun W (hE:Ext w W)=>may_set b p vb W (hvb.ext hE)
 rw[ha]at HM1
 rw[hb]at HM2
 obtain⟨aa,ac,rfl,_,_⟩:=hva.count z_span kA
 obtain⟨ba,bc,rfl,_,_⟩:=hvb.count z_span kA
 have HL:=Lh hle
 have HVS:=Lh (And.intro hva hvb)
 have HBD:=Lh hbd
 clear hle ha hb hva hvb hbd
 go_enter Tryz.func58,Tryz.ntmps58
 go_wp2_with fail
 refine(HM1.out _ (Ext.refl _)).mono ?_
 rintro e w1 ⟨rfl,hB1⟩
 clear HM1
 go_wp2_with fail
 refine(HM2.out _ hB1).mono ?_
 rintro e w2 ⟨rfl,hB2⟩
 clear HM2
 have hX2:=hB1.trans hB2
 have HC:Hid (Calls Tryz.prog 92 #[.slice (some ⟨w2.heap.size,0,none⟩) 2 2] (w2.alloc (.cells #[.slice aa a.length ac,.slice ba b.length bc] 28)) fun e w'=>(∃v',e= .returned v'∧w'.ownsRow (w2.heap.size+1) 89 2 v' l.length (spanV l))∧Ext w2 w'):=Lh (by
  have hE3:Ext w2 (w2.alloc (.cells #[.slice aa a.length ac,.slice ba b.length bc] 28)):=(Ext.refl w2).alloc _
  have hz:(w2.alloc (.cells #[.slice aa a.length ac,.slice ba b.length bc] 28)).heap.size=w2.heap.size+1:=by simp
  have hblk:(w2.alloc (.cells #[.slice aa a.length ac,.slice ba b.length bc] 28)).heap[w2.heap.size]? =some (.cells [.slice aa a.length ac,.slice ba b.length bc].toArray 28 (0,0)):=Array.getElem?_push_size
  have hr:Rep (w2.alloc (.cells #[.slice aa a.length ac,.slice ba b.length bc] 28)) (fun _=>True) (.slice (some ⟨w2.heap.size,0,none⟩) 2 2) (spssD [a,b]):=by
   refine .row w2.heap.size 0 2 2 1 [.slice aa a.length ac,.slice ba b.length bc] _ (fun _=>trivial) rfl rfl (Nat.le_refl _) kA (fun k u hk=>by rw[Nat.zero_add];exact blk_cells hblk k hk) ?_
   have hh:Reps (w2.alloc (.cells #[.slice aa a.length ac,.slice ba b.length bc] 28)) (fun _=>True) [.slice aa a.length ac,.slice ba b.length bc] [spansD a,spansD b]:=Reps.cons ((HVS.out.1.ext (hX2.trans hE3)).ok fun _ _=>trivial) (Reps.cons ((HVS.out.2.ext (hX2.trans hE3)).ok fun _ _=>trivial) (Reps.nil _ _))
   exact hh.2
  have hfl: [a,b].flatten=l:=by rw[←HL.out];simp
  have hc:=concat_any [a,b] _ _ _ (by rw[hfl];omega) hr
  rw[hfl,hz]at hc
  exact hc.mono fun e w' h=>⟨h.1,hE3.trans h.2⟩)
 have HX2:=Lh hX2
 clear hB1 hB2 hX2 HVS
 go_wp2_with fail
 refine HC.out.mono ?_
 rintro e w3 ⟨⟨v3,rfl,hrow3⟩,hB3⟩
 clear HC
 obtain⟨g,cap,rfl,hg,hbg⟩:=own_some hrow3 h0
 have HSO:=Lh (sortsp_any l cap g _ w3 (fun t ht=>⟨(HBD.out t ht).1,(HBD.out t ht).2.1⟩) hl hrow3)
 have HX3:=Lh (And.intro (HX2.out.trans hB3) (And.intro hrow3 (And.intro hg (Nat.le_trans HX2.out.size (Nat.le_succ _)))))
 clear hB3 hrow3 HX2
 go_wp2_with fail
 refine HSO.out.mono ?_
 rintro e w5 ⟨rfl,⟨m,hpm,hsm,hrow5⟩,hG5⟩
 clear HSO
 have hml:=hpm.length_eq
 have hX5:Ext w w5:=Below.grown HX3.out.1 hG5 HX3.out.1.size fun k hk=>by
  have e:=Option.some.inj hk
  have h1:=HX3.out.2.2.1
  have h2:=HX3.out.2.2.2
  omega
 have lg5:g< w5.heap.size:=(hrow5.lt g rfl).2
 have HW5:=Lh (And.intro hX5 hrow5)
 have HML:=Lh hml
 have HFL:=Lh (hUL.out m hpm hsm)
 have HB5:Hid (∀t∈m,0≤t.b∧t.b≤1000):=Lh fun t ht=>(HBD.out t (hpm.mem_iff.1 ht)).2.2
 clear hG5 hX5 hrow5 HX3 hg hbg hml hpm hsm hUL
 go_wp2_with fail
 go_loopw [6,8,25] (fun o _ t wr=>∃(i:Nat) (dv:Value),t= .int .i64 i∧dv=o∧i≤l.length∧Ext w5 wr∧Hid (wr.ownsRow w5.heap.size 89 2 dv ((m.take i).foldl putS []).length (spanV ((m.take i).foldl putS [])))) (fun _ _ t _=>downV l.length t)
 case atStart=>exact⟨0,_,rfl,rfl,Nat.zero_le _,Ext.refl _,Lh (World.ownsRow_nil _ _ _ _)⟩
 case round=>
  obtain⟨i,dv,rfl,rfl,hil,hX,HH⟩:=hrel
  have hi0:=nZ0 i
  have hbz:=hX.size
  by_cases hlt:i< l.length
  ·
   have hlI:(i:Int)< (l.length:Int):=by omega
   have hrowr:=rows_ext HW5.out.2 hX
   have hltm:i< m.length:=by rw[HML.out];exact hlt
   have hsv:=spanV_get m i hltm
   have d0:wr.cell? ⟨g,i*2,none⟩=some (.int .i64 m[i].a):=by rw[hrowr.cellAt _ kA];exact hsv.1
   have d1:wr.cell? ⟨g,i*2+1,none⟩=some (.int .i64 m[i].b):=by rw[hrowr.cellAt _ kA];exact hsv.2
   have HS:Hid ((m.take (i+1)).foldl putS []=putS ((m.take i).foldl putS []) m[i]):=Lh (by rw[List.take_add_one,List.getElem?_eq_getElem hltm,List.foldl_append];rfl)
   have hb1:=putF_b m HB5.out i
   have hb2:=putF_len m i
   obtain⟨x,hx⟩:∃x,m[i]=x:=⟨_,rfl⟩
   rw[hx]at d0 d1 HS
   obtain⟨y,hy⟩:∃y,(m.take i).foldl putS []=y:=⟨_,rfl⟩
   rw[hy]at HS HH hb1 hb2
   have lgr:g< wr.heap.size:=Nat.lt_of_lt_of_le lg5 hX.size
   obtain⟨wo,hwo⟩:∃wo,wo=wr:=⟨_,rfl⟩
   subst hwo
   have hE9:Ext wo (wo.alloc (.cells #[.int .i64 x.a,.int .i64 x.b] 89)):=(Ext.refl wo).alloc _
   have HP:=Lh (iput_any y x w5.heap.size dv (wo.alloc (.cells #[.int .i64 x.a,.int .i64 x.b] 89)) (rows_ext HH.out hE9) kA hb1 kM)
   clear hx hy hb1 hb2 hsv hrowr HH hltm
   go_wp2_with fail
   refine HP.out.mono ?_
   rintro e w7 ⟨⟨v7,rfl,hrow7⟩,hB7⟩
   have hX7:Ext w5 w7:=Below.trans (hX.trans hE9) hB7
   rw[←HS.out]at hrow7
   have HR7:=Lh hrow7
   clear hB7 hrow7 HP HS hE9 hX d0 d1
   go_wp2_with fail
   go_roundw
   case rel=>exact⟨i+1,v7,by go_num,rfl,by omega,hX7,HR7⟩
   case measure=>exact mZ
  ·
   have hlI:¬(i:Int)< (l.length:Int):=by omega
   have hfin:=HH.out
   rw[List.take_of_length_le (by rw[HML.out];omega),HFL.out]at hfin
   have HF:=Lh (And.intro (rows_mono hfin HW5.out.1.size) (HW5.out.1.trans hX))
   clear hfin HH hX
   go_wp2_with fail
   go_ret
   exact⟨⟨_,rfl,(Own.rep (p:=fun _=>False) (n:=R.length) ⟨_,HF.out.1,reps_span _ _ _⟩).ok fun b hb=>hb.elim (fun h=>h.elim) id⟩,HF.out.2⟩
theorem fl12 {L:List Int} (hL:∀u∈L,1≤u∧u≤12):∀j,13≤j→flOf L j=false:=fun j hj=>by
 unfold flOf
 exact decide_eq_false fun h=>by have:=hL _ h.2.2;omega
theorem flOf_append (L L':List Int):flOf (L++L')=fun j=>flOf L j || flOf L' j:=by
 funext j
 unfold flOf
 rw[Bool.eq_iff_iff,Bool.or_eq_true,decide_eq_true_iff,decide_eq_true_iff,decide_eq_true_iff,List.mem_append]
 constructor
 ·
  rintro⟨a,b,c | c⟩
  ·
   exact .inl ⟨a,b,c⟩
  ·
   exact .inr ⟨a,b,c⟩
 ·
  rintro(⟨a,b,c⟩ | ⟨a,b,c⟩)
  ·
   exact⟨a,b,.inl c⟩
  ·
   exact⟨a,b,.inr c⟩
theorem spans_ne {L:List Int} (hL:∀u∈L,1≤u∧u≤200) (h:L≠ []):spansOf (flOf L)≠ []:=fun e=>by
 obtain⟨u,r,rfl⟩:∃u r,L=u::r:=by cases L with | nil=>exact absurd rfl h | cons u r=>exact⟨u,r,rfl⟩
 have hu:=hL u kI
 have h1:=inS_of (flOf (u::r)) u
 rw[e,decide_eq_true hu,Bool.true_and]at h1
 have:flOf (u::r) u.toNat=true:=by unfold flOf;exact decide_eq_true ⟨by omega,by omega,by rw[Int.toNat_of_nonneg kA];simp⟩
 rw[this]at h1
 cases h1
theorem spans_one (v:Int) (h1:1≤v) (h2:v≤200):spansOf (flOf [v])= [⟨v,v⟩]:=by
 refine mayG_uniq _ _ 1 (spansOf_may _) ⟨h1,Int.le_refl _,h2,trivial⟩ fun u=> ?_
 rw[inS_of]
 unfold flOf inS
 rw[List.any_cons,List.any_nil,Bool.or_false,Bool.eq_iff_iff,Bool.and_eq_true,decide_eq_true_iff,decide_eq_true_iff,decide_eq_true_iff]
 simp only[List.mem_singleton]
 omega
theorem xadd_any (L:List Int) (v:Int) (hL:∀u∈L,1≤u∧u≤12) (h1:1≤v∧v≤12) (p:Nat→Prop) (va:Value) (w:World) (h:Rep w p va (spansD (spansOf (flOf L)))):
  Calls Tryz.prog 54 #[va,.int .i64 v] w fun e w'=>Ret (fun b=>w.heap.size≤b) (spansD (spansOf (flOf (L++ [v])))) e w'∧Ext w w':=by
 have hE:Ext w (w.alloc (.cells #[.int .i64 v,.int .i64 v] 89)):=(Ext.refl w).alloc _
 have hblk:(w.alloc (.cells #[.int .i64 v,.int .i64 v] 89)).heap[w.heap.size]? =some (.cells [.int .i64 v,.int .i64 v].toArray 89 (0,0)):=Array.getElem?_push_size
 have hrv:Rep (w.alloc (.cells #[.int .i64 v,.int .i64 v] 89)) (fun _=>True) (.slice (some ⟨w.heap.size,0,none⟩) 1 1) (spansD (spansOf (flOf [v]))):=by
  rw[spans_one v h1.1 kA]
  refine .row w.heap.size 0 1 1 2 [.int .i64 v,.int .i64 v] _ (fun _=>trivial) rfl rfl (Nat.le_refl _) kA (fun k u hk=>by rw[Nat.zero_add];exact blk_cells hblk k hk) ?_
  exact(reps_span (w.alloc (.cells #[.int .i64 v,.int .i64 v] 89)) (fun _=>True) [⟨v,v⟩]).2
 have HU:=Lh (uni_any (flOf L) (flOf [v]) (fl12 hL) (fl12 fun u hu=>by rw[List.mem_singleton]at hu;rw[hu];exact h1) (fun _=>True) va _ _ (by rw[spans_one v h1.1 kA];simp) ((h.ext hE).ok fun _ _=>trivial) hrv)
 rw[←flOf_append]at HU
 obtain⟨R,hR⟩:∃R,spansOf (flOf (L++ [v]))=R:=⟨_,rfl⟩
 rw[hR]at HU⊢
 have HVB:=Lh (show verB v=true from decide_eq_true kA)
 have HE:=Lh hE
 obtain⟨aa,ac,rfl,_,_⟩:=h.count z_span kA
 clear hR hE hblk hrv h hL h1
 go_enter Tryz.func54,Tryz.ntmps54
 go_wp2_with fail
 refine(version_any v w).mono ?_
 rintro e w1 ⟨rfl,rfl⟩
 rw[HVB.out]
 go_wp2_with fail
 refine HU.out.mono ?_
 rintro e w2 ⟨⟨v',rfl,hrv⟩,hB2⟩
 have HR:=Lh (And.intro (hrv.ok fun b hb=>Nat.le_trans HE.out.size hb) (HE.out.trans hB2))
 clear hrv hB2 HU
 go_wp2_with fail
 go_ret
 exact⟨⟨_,rfl,HR.out.1⟩,HR.out.2⟩
end Go.Proofs.YtngmgjodcnknoaaGreatDoor
