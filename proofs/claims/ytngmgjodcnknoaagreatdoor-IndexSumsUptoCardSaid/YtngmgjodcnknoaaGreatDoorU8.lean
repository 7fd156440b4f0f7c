/-
 Laws drawn from elder texts. Helper lemmas;no statement of the seat is proved here.
-/
import Derived.Test.YtngmgjodcnknoaaGreatDoorU7
namespace Go.Proofs.YtngmgjodcnknoaaGreatDoor
open Go.RowKit
set_option maxHeartbeats 32000000
set_option maxRecDepth 100000
set_option linter.unusedVariables false
set_option linter.unusedSimpArgs false
theorem attrsort_any (l:List Attr) (p:Nat→Prop) (v:Value) (w:World) (hll:l.length≤1048576) (h:Rep w p v (attrsD l)):
  Calls Tryz.prog 111 #[v] w fun e w'=>Ret (fun b=>w.heap.size≤b) (attrsD (sortA [] l)) e w'∧Ext w w':=by
 obtain⟨a,c,rfl,hc1,hc2⟩:=h.count z_attr kA
 obtain⟨i0,hi,hz0,hz1,hz2⟩:=info_parts infoAttr
 obtain⟨R,hR⟩:∃R,sortA [] l=R:=⟨_,rfl⟩
 rw[hR]
 have HR:Hid (sortA [] (l.drop 0)=R):=Lh hR
 have hsz:∀W,(sizeOf (Tryz.prog.elem 64)).run Tryz.prog W= .ok 2 W:=fun W=>by rw[show Tryz.prog.elem 64=68 by kernel_rfl];go_simp
 have hund:Tryz.prog.underlying 64=some (.slice (Tryz.prog.elem 64)):=by kernel_rfl
 have HSZ:=Lh (And.intro hsz hund)
 clear hR hsz hund
 go_enter Tryz.func111,Tryz.ntmps111
 go_wp2_with fail
 go_loopw [3,4,5] (fun o t s wr=>∃(i:Nat) (L:List Attr) (dv:Value),t= .int .i64 i∧dv=o∧i≤l.length∧Hid (L.length=i)∧Ext w wr∧Hid (Own wr (fun _=>False) w.heap.size 68 2 dv L.length (L.flatMap attrC)∧sortA L (l.drop i)=R)) (fun _ t _ _=>downV l.length t)
 case atStart=>exact⟨0,[],_,rfl,rfl,Nat.zero_le _,Lh rfl,Ext.refl _,Lh ⟨Own.nil _ _ _ _ _,HR.out⟩⟩
 case round=>
  obtain⟨i,L,dv,rfl,rfl,hi2,hL,hX,HH⟩:=hrel
  have hi0:=nZ0 i
  have hLi:L.length≤i:=by have:=hL.out;omega
  have hwz:=hX.size
  by_cases hlt:i< l.length
  ·
   have hlI:(i:Int)< (l.length:Int):=by omega
   obtain⟨oa,cap,rfl,hn1,hn2⟩:=HH.out.1.form
   obtain⟨g1,o1,rfl,lg,_,x0,x1⟩:=attr_at (h.ext hX) i hlt
   have hxl:=attr_len h i hlt
   have HS:Hid (sortA L (l.drop i)=sortA (insAt L (attrPos l[i] L) l[i]) (l.drop (i+1))):=Lh (by rw[drop_one l i hlt,sortA])
   obtain⟨x,hx⟩:∃x,l[i]=x:=⟨_,rfl⟩
   rw[hx]at x0 x1 HS hxl
   clear hx
   have hple:=attrPos_le x L
   obtain⟨P,hP⟩:∃P,attrPos x L=P:=⟨_,rfl⟩
   rw[hP]at HS hple
   have HP:Hid (0+(L.drop 0).findIdx (fun b=>lessB x.n b.n)=P):=Lh (by rw[Nat.zero_add];exact hP)
   clear hP HR
   obtain⟨wz,hwzz⟩:∃wz,wz=wr:=⟨_,rfl⟩
   subst hwzz
   have hXX:=Lh hX
   clear hX
   go_wp2_with fail
   go_loopw [5] (fun t wr=>∃k:Nat,t= .int .i64 k∧k≤L.length∧Ext wz wr∧Hid (k+(L.drop k).findIdx (fun b=>lessB x.n b.n)=P)) (fun t _=>downV L.length t)
   case atStart=>exact⟨0,rfl,Nat.zero_le _,Ext.refl _,HP⟩
   case round=>
    obtain⟨k,rfl,hk,hX,HI⟩:=hrel
    have hk0:=nZ0 k
    have y0:=hX.keep lg x0
    have y1:=hX.keep lg x1
    have lgr:g1< wr.heap.size:=Nat.lt_of_lt_of_le lg hX.size
    obtain⟨wy,hwyy⟩:∃wy,wy=wr:=⟨_,rfl⟩
    subst hwyy
    by_cases hkl:k< L.length
    ·
     have hkI:(k:Int)< (L.length:Int):=by omega
     obtain⟨g2,o2,rfl,lg2,_,z0,_⟩:=attr_at (HH.out.1.rep.ext hX) k hkl
     have hyl:=attr_len (HH.out.1.rep.ext hX) k hkl
     have HF:Hid ((L.drop k).findIdx (fun b=>lessB x.n b.n)=if lessB x.n L[k].n=true then 0 else(L.drop (k+1)).findIdx (fun b=>lessB x.n b.n)+1):=Lh (findIdx_drop _ L k hkl)
     obtain⟨y,hy⟩:∃y,L[k]=y:=⟨_,rfl⟩
     rw[hy]at z0 hyl HF
     have HC:=Lh fun W=>lessb_any x.n y.n W hxl.1 hyl.1
     obtain⟨B,hB⟩:∃B,lessB x.n y.n=B:=⟨_,rfl⟩
     rw[hB]at HC HF
     clear hy hB hyl
     cases B with
     | true=>
      have HN:Hid (k=P):=Lh (by rw[←HI.out,HF.out,if_pos rfl];rfl)
      clear HI HF
      go_wp2_with fail
      refine rg_begin (S:=Sx wy) kB (Sx.begin _) ?_
      have hS:Sx wy (World.drew wy):=(Sx.begin _)
      refine gT 0 12 (.int .i64 k) hS ?_
      simp only[Act.put,sA,sZ,sS]
      refine gT 1 13 (.slice (some ⟨g2,o2,none⟩) L.length cap) hS ?_
      simp only[Act.put,sA,sZ,sS]
      refine gT 2 14 (.int .i64 L.length) hS ?_
      simp only[Act.put,sA,sZ,sS]
      refine gT 3 15 (.bool true) hS ?_
      simp only[Act.put,sA,sZ,sS]
      refine gT 4 16 (.bool true) hS ?_
      simp only[Act.put,sA,sZ,sS]
      refine gT 5 17 (.slice (some ⟨g1,o1,none⟩) l.length c) hS ?_
      simp only[Act.put,sA,sZ,sS]
      refine gT 6 18 (.int .i64 i) hS ?_
      simp only[Act.put,sA,sZ,sS]
      refine gT 7 19 (.pointer (some ⟨g1,o1+i*2,none⟩)) hS ?_
      simp only[Act.put,sA,sZ,sS]
      refine gT 8 20 (.pointer (some ⟨g1,o1+i*2,none⟩)) hS ?_
      simp only[Act.put,sA,sZ,sS]
      refine gT 9 21 (.string (bs x.n)) hS ?_ (hv:=fun w' hs=>by(have h0:=hs.cell lgr y0;go_simp))
      simp only[Act.put,sA,sZ,sS]
      refine gT 10 22 (.slice (some ⟨g2,o2,none⟩) L.length cap) hS ?_
      simp only[Act.put,sA,sZ,sS]
      refine gT 11 23 (.int .i64 k) hS ?_
      simp only[Act.put,sA,sZ,sS]
      refine gT 12 24 (.pointer (some ⟨g2,o2+k*2,none⟩)) hS ?_
      simp only[Act.put,sA,sZ,sS]
      refine gT 13 25 (.pointer (some ⟨g2,o2+k*2,none⟩)) hS ?_
      simp only[Act.put,sA,sZ,sS]
      refine gT 14 26 (.string (bs y.n)) hS ?_ (hv:=fun w' hs=>by(have h0:=hs.cell lg2 z0;go_simp))
      simp only[Act.put,sA,sZ,sS]
      refine rg_call 15 (some 27) 28 #[.string (bs x.n),.string (bs y.n)] rfl rfl kB (by rfl) (fun w'=>by first | rfl | go_simp) (R:=fun v w'=>v= .bool true∧Ext (World.drew wy) w') ?_ ?_
      ·
       refine(HC.out (World.drew wy)).mono ?_
       rintro e w' ⟨rfl,h⟩
       exact⟨_,rfl,rfl,h⟩
      rintro _ wr1 ⟨rfl,hBr1⟩
      have hS1:=hS.ext hBr1
      refine⟨hS1,?_⟩
      simp only[Act.put,sA,sZ,sS]
      refine gT 16 28 (.bool false) hS1 ?_
      simp only[Act.put,sA,sZ,sS]
      refine gT 17 29 (.bool false) hS1 ?_
      simp only[Act.put,sA,sZ,sS]
      refine rg_done kB ?_
      go_wp2_with fail
      obtain rfl:=HN.out
      have hXw:Ext w wr1:=hXX.out.trans (hX.trans hS1)
      have ho:=HH.out.1.ext (hX.trans hS1)
      obtain⟨us,hrow,hreps⟩:=ho.rows
      have h1u:=hreps.one (flat_one one_attr L)
      obtain⟨vt,hvt,evt⟩:=src_take hrow HSZ.out.2 HSZ.out.1 k hk
      obtain⟨vd,hvd,evd⟩:=src_drop hrow HSZ.out.2 HSZ.out.1 k hk
      have u0:=(show Ext wy wr1 from hS1).keep lgr y0
      have u1:=(show Ext wy wr1 from hS1).keep lgr y1
      have lgu:g1< wr1.heap.size:=Nat.lt_of_lt_of_le lgr ((show Ext wy wr1 from hS1)).size
      have hbw:w.heap.size≤wr1.heap.size:=hXw.size
      have HXW:=Lh hXw
      have HRO:=Lh (And.intro hreps ho)
      obtain⟨wv,hwv⟩:∃wv,wv=wr1:=⟨_,rfl⟩
      rw[←hwv]at hrow hvt hvd u0 u1 lgu hbw HXW HRO⊢
      clear hwv hreps ho hXw y0 y1 x0 x1 lg lgr hX z0
      refine rg_begin (S:=Sx wv) kB (Sx.begin _) ?_
      have hS:Sx wv (World.drew wv):=(Sx.begin _)
      refine gT 1 33 (.slice (some ⟨g2,o2,none⟩) L.length cap) hS ?_
      simp only[Act.put,sA,sZ,sS]
      refine gT 2 34 (.int .i64 k) hS ?_
      simp only[Act.put,sA,sZ,sS]
      refine gT 3 35 (vt) hS ?_ (hv:=fun w' hs=>by exact exec_slice rfl (evt w'))
      simp only[Act.put,sA,sZ,sS]
      refine gT 5 37 (.slice (some ⟨g1,o1,none⟩) l.length c) hS ?_
      simp only[Act.put,sA,sZ,sS]
      refine gT 6 38 (.int .i64 i) hS ?_
      simp only[Act.put,sA,sZ,sS]
      refine gT 7 39 (.pointer (some ⟨g1,o1+i*2,none⟩)) hS ?_
      simp only[Act.put,sA,sZ,sS]
      refine gT 8 40 (.agg #[.string (bs x.n),.string (bs x.v)]) hS ?_ (hv:=fun w' hs=>by(have h0:=hs.cell lgu u0;have h1:=hs.cell lgu u1;go_simp))
      simp only[Act.put,sA,sZ,sS]
      refine gT 11 43 (.slice (some ⟨g2,o2,none⟩) L.length cap) hS ?_
      simp only[Act.put,sA,sZ,sS]
      refine gT 12 44 (.int .i64 k) hS ?_
      simp only[Act.put,sA,sZ,sS]
      refine gT 13 45 (vd) hS ?_ (hv:=fun w' hs=>by exact exec_slice rfl (evd w'))
      simp only[Act.put,sA,sZ,sS]
      refine rg_two 0 9 kB ?_ ?_
      refine tk_new 0 (some 32) (.cells #[] 68) (fun n=> .slice (some ⟨n,0,none⟩) 0 0) rfl rfl (by rfl) kF ?_
      intro ga xa ega hxa hzxa hga
      have hSa:Sx wv xa:=hS.ext hxa
      refine⟨hSa,?_⟩
      simp only[Act.put,sA,sZ,sS]
      have ownA:xa.ownsRow wv.heap.size 68 2 (.slice (some ⟨ga,0,none⟩) 0 0) 0 []:=own_empty' (by rw[ega];exact(show Ext wv _ from hS).size) hga
      refine rg_two 4 9 kB ?_ ?_
      refine tk_src 4 (some 36) rfl rfl (by rfl) (.tmp 32) (.tmp 35) 64 rfl wv.heap.size 68 i0 (.agg #[.string ⟨#[]⟩,.string ⟨#[]⟩]) 2 32 Tryz.underlying64 hi hz0 hz1 hz2 rfl kD _ 0 [] rfl ownA vt (k) (us.take (k*2)) rfl (hvt.ext hSa) (fun u hu=>h1u u (List.mem_of_mem_take hu)) kC kA (show Ext wv _ from hSa).size ?_
      intro v2 xc hr2 hg2 ha2
      have hSc:Sx wv xc:=sx_grown hSa ownA hg2
      refine⟨hSc,?_⟩
      simp only[Act.put,sA,sZ,sS]
      have ownB:xc.ownsRow wv.heap.size 68 2 v2 (k) (us.take (k*2)):=by rw[Nat.zero_add,List.nil_append]at hr2;exact hr2
      refine rg_one 9 kB ?_
      refine tk_new 9 (some 41) (.cells #[.string (bs x.n),.string (bs x.v)] 68) (fun n=> .slice (some ⟨n,0,none⟩) 1 1) rfl rfl (by rfl) kF ?_
      intro gb xb egb hxb hzxb hC
      have hSb:Sx wv xb:=hSc.ext hxb
      refine⟨hSb,?_⟩
      simp only[Act.put,sA,sZ,sS]
      have lC:gb< xb.heap.size:=blk_lt hC
      have own':=rows_ext ownB hxb
      clear ownB
      have ownB:=own'
      clear own'
      refine rg_one 10 kB ?_
      refine tk_src 10 (some 42) rfl rfl (by rfl) (.tmp 36) (.tmp 41) 64 rfl wv.heap.size 68 i0 (.agg #[.string ⟨#[]⟩,.string ⟨#[]⟩]) 2 32 Tryz.underlying64 hi hz0 hz1 hz2 rfl kD _ (k) (us.take (k*2)) rfl ownB (.slice (some ⟨gb,0,none⟩) 1 1) 1 [.string (bs x.n),.string (bs x.v)] rfl (Src.block hC rfl) kG kC kA (show Ext wv _ from hSb).size ?_
      intro v3 xd hr3 hg3 ha3
      have hSd:Sx wv xd:=sx_grown hSb ownB hg3
      refine⟨hSd,?_⟩
      simp only[Act.put,sA,sZ,sS]
      refine rg_one 14 kB ?_
      refine tk_src 14 (some 46) rfl rfl (by rfl) (.tmp 42) (.tmp 45) 64 rfl wv.heap.size 68 i0 (.agg #[.string ⟨#[]⟩,.string ⟨#[]⟩]) 2 32 Tryz.underlying64 hi hz0 hz1 hz2 rfl kD _ (k+1) (us.take (k*2)++([.string (bs x.n),.string (bs x.v)]:List Value)) rfl hr3 vd (L.length - k) (us.drop (k*2)) rfl (hvd.ext hSd) (fun u hu=>h1u u (List.mem_of_mem_drop hu)) kC kA (show Ext wv _ from hSd).size ?_
      intro v4 xe hr4 hg4 ha4
      have hSe:Sx wv xe:=sx_grown hSd hr3 hg4
      refine⟨hSe,?_⟩
      simp only[Act.put,sA,sZ,sS]
      refine gT 15 3 (v4) hSe ?_
      simp only[Act.put,sA,sZ,sS]
      refine rg_done kB ?_
      rotate_left
      refine tk_new 9 (some 41) (.cells #[.string (bs x.n),.string (bs x.v)] 68) (fun n=> .slice (some ⟨n,0,none⟩) 1 1) rfl rfl (by rfl) kF ?_
      intro gb xb egb hxb hzxb hC
      have hSb:Sx wv xb:=hSa.ext hxb
      refine⟨hSb,?_⟩
      simp only[Act.put,sA,sZ,sS]
      have lC:gb< xb.heap.size:=blk_lt hC
      have own':=rows_ext ownA hxb
      clear ownA
      have ownA:=own'
      clear own'
      have neC:gb≠ga:=by have:=blk_lt hga;omega
      refine rg_one 4 kB ?_
      refine tk_src 4 (some 36) rfl rfl (by rfl) (.tmp 32) (.tmp 35) 64 rfl wv.heap.size 68 i0 (.agg #[.string ⟨#[]⟩,.string ⟨#[]⟩]) 2 32 Tryz.underlying64 hi hz0 hz1 hz2 rfl kD _ 0 [] rfl ownA vt (k) (us.take (k*2)) rfl (hvt.ext hSb) (fun u hu=>h1u u (List.mem_of_mem_take hu)) kC kA (show Ext wv _ from hSb).size ?_
      intro v2 xc hr2 hg2 ha2
      have hSc:Sx wv xc:=sx_grown hSb ownA hg2
      refine⟨hSc,?_⟩
      simp only[Act.put,sA,sZ,sS]
      have ownB:xc.ownsRow wv.heap.size 68 2 v2 (k) (us.take (k*2)):=by rw[Nat.zero_add,List.nil_append]at hr2;exact hr2
      have hC':=(hg2.block gb (blk_lt hC) (by intro e;exact neC (Option.some.inj e))).trans hC
      clear hC
      have hC:=hC'
      clear hC'
      refine rg_one 10 kB ?_
      refine tk_src 10 (some 42) rfl rfl (by rfl) (.tmp 36) (.tmp 41) 64 rfl wv.heap.size 68 i0 (.agg #[.string ⟨#[]⟩,.string ⟨#[]⟩]) 2 32 Tryz.underlying64 hi hz0 hz1 hz2 rfl kD _ (k) (us.take (k*2)) rfl ownB (.slice (some ⟨gb,0,none⟩) 1 1) 1 [.string (bs x.n),.string (bs x.v)] rfl (Src.block hC rfl) kG kC kA (show Ext wv _ from hSc).size ?_
      intro v3 xd hr3 hg3 ha3
      have hSd:Sx wv xd:=sx_grown hSc ownB hg3
      refine⟨hSd,?_⟩
      simp only[Act.put,sA,sZ,sS]
      refine rg_one 14 kB ?_
      refine tk_src 14 (some 46) rfl rfl (by rfl) (.tmp 42) (.tmp 45) 64 rfl wv.heap.size 68 i0 (.agg #[.string ⟨#[]⟩,.string ⟨#[]⟩]) 2 32 Tryz.underlying64 hi hz0 hz1 hz2 rfl kD _ (k+1) (us.take (k*2)++([.string (bs x.n),.string (bs x.v)]:List Value)) rfl hr3 vd (L.length - k) (us.drop (k*2)) rfl (hvd.ext hSd) (fun u hu=>h1u u (List.mem_of_mem_drop hu)) kC kA (show Ext wv _ from hSd).size ?_
      intro v4 xe hr4 hg4 ha4
      have hSe:Sx wv xe:=sx_grown hSd hr3 hg4
      refine⟨hSe,?_⟩
      simp only[Act.put,sA,sZ,sS]
      refine gT 15 3 (v4) hSe ?_
      simp only[Act.put,sA,sZ,sS]
      refine rg_done kB ?_
      rotate_left
      refine tk_new 9 (some 41) (.cells #[.string (bs x.n),.string (bs x.v)] 68) (fun n=> .slice (some ⟨n,0,none⟩) 1 1) rfl rfl (by rfl) kF ?_
      intro gb xb egb hxb hzxb hC
      have hSb:Sx wv xb:=hS.ext hxb
      refine⟨hSb,?_⟩
      simp only[Act.put,sA,sZ,sS]
      have lC:gb< xb.heap.size:=blk_lt hC
      refine rg_one 0 kB ?_
      refine tk_new 0 (some 32) (.cells #[] 68) (fun n=> .slice (some ⟨n,0,none⟩) 0 0) rfl rfl (by rfl) kF ?_
      intro ga xa ega hxa hzxa hga
      have hSa:Sx wv xa:=hSb.ext hxa
      refine⟨hSa,?_⟩
      simp only[Act.put,sA,sZ,sS]
      have ownA:xa.ownsRow wv.heap.size 68 2 (.slice (some ⟨ga,0,none⟩) 0 0) 0 []:=own_empty' (by rw[ega];exact(show Ext wv _ from hSb).size) hga
      have hC':=(Below.block hxa gb lC).trans hC
      clear hC
      have hC:=hC'
      clear hC'
      have lC':gb< xa.heap.size:=blk_lt hC
      have neC:gb≠ga:=by omega
      refine rg_one 4 kB ?_
      refine tk_src 4 (some 36) rfl rfl (by rfl) (.tmp 32) (.tmp 35) 64 rfl wv.heap.size 68 i0 (.agg #[.string ⟨#[]⟩,.string ⟨#[]⟩]) 2 32 Tryz.underlying64 hi hz0 hz1 hz2 rfl kD _ 0 [] rfl ownA vt (k) (us.take (k*2)) rfl (hvt.ext hSa) (fun u hu=>h1u u (List.mem_of_mem_take hu)) kC kA (show Ext wv _ from hSa).size ?_
      intro v2 xc hr2 hg2 ha2
      have hSc:Sx wv xc:=sx_grown hSa ownA hg2
      refine⟨hSc,?_⟩
      simp only[Act.put,sA,sZ,sS]
      have ownB:xc.ownsRow wv.heap.size 68 2 v2 (k) (us.take (k*2)):=by rw[Nat.zero_add,List.nil_append]at hr2;exact hr2
      have hC':=(hg2.block gb (blk_lt hC) (by intro e;exact neC (Option.some.inj e))).trans hC
      clear hC
      have hC:=hC'
      clear hC'
      refine rg_one 10 kB ?_
      refine tk_src 10 (some 42) rfl rfl (by rfl) (.tmp 36) (.tmp 41) 64 rfl wv.heap.size 68 i0 (.agg #[.string ⟨#[]⟩,.string ⟨#[]⟩]) 2 32 Tryz.underlying64 hi hz0 hz1 hz2 rfl kD _ (k) (us.take (k*2)) rfl ownB (.slice (some ⟨gb,0,none⟩) 1 1) 1 [.string (bs x.n),.string (bs x.v)] rfl (Src.block hC rfl) kG kC kA (show Ext wv _ from hSc).size ?_
      intro v3 xd hr3 hg3 ha3
      have hSd:Sx wv xd:=sx_grown hSc ownB hg3
      refine⟨hSd,?_⟩
      simp only[Act.put,sA,sZ,sS]
      refine rg_one 14 kB ?_
      refine tk_src 14 (some 46) rfl rfl (by rfl) (.tmp 42) (.tmp 45) 64 rfl wv.heap.size 68 i0 (.agg #[.string ⟨#[]⟩,.string ⟨#[]⟩]) 2 32 Tryz.underlying64 hi hz0 hz1 hz2 rfl kD _ (k+1) (us.take (k*2)++([.string (bs x.n),.string (bs x.v)]:List Value)) rfl hr3 vd (L.length - k) (us.drop (k*2)) rfl (hvd.ext hSd) (fun u hu=>h1u u (List.mem_of_mem_drop hu)) kC kA (show Ext wv _ from hSd).size ?_
      intro v4 xe hr4 hg4 ha4
      have hSe:Sx wv xe:=sx_grown hSd hr3 hg4
      refine⟨hSe,?_⟩
      simp only[Act.put,sA,sZ,sS]
      refine gT 15 3 (v4) hSe ?_
      simp only[Act.put,sA,sZ,sS]
      refine rg_done kB ?_
      rotate_left
      all_goals
       have hO:=Own.ins z_attr kA HRO.out.1 (Reps.cons (Rep.string _ _ _ (by rw[bs_size];exact hxl.1)) (Reps.cons (Rep.string _ _ _ (by rw[bs_size];exact hxl.2)) (Reps.nil _ _)):Reps wv (fun b=>False∧b< wv.heap.size) _ (attrC x)) (show Ext wv xe from hSe) hk hr4 hbw
       have hXE:=HXW.out.trans (show Ext wv xe from hSe)
       clear hr4 hg4 ha4 hrow
       go_wp2_with fail
       go_roundw
       case rel=>exact⟨i+1,insAt L k x,v4,by go_num,rfl,by omega,Lh (by rw[insAt_len,hL.out]),hXE,Lh ⟨hO,by rw[←HS.out];exact HH.out.2⟩⟩
       case measure=>exact mZ
     | false=>
      have HN:Hid (k+1+(L.drop (k+1)).findIdx (fun b=>lessB x.n b.n)=P):=Lh (by rw[←HI.out,HF.out,if_neg kI];omega)
      clear HI HF
      go_wp2_with fail
      refine rg_begin (S:=Sx wy) kB (Sx.begin _) ?_
      have hS:Sx wy (World.drew wy):=(Sx.begin _)
      refine gT 0 12 (.int .i64 k) hS ?_
      simp only[Act.put,sA,sZ,sS]
      refine gT 1 13 (.slice (some ⟨g2,o2,none⟩) L.length cap) hS ?_
      simp only[Act.put,sA,sZ,sS]
      refine gT 2 14 (.int .i64 L.length) hS ?_
      simp only[Act.put,sA,sZ,sS]
      refine gT 3 15 (.bool true) hS ?_
      simp only[Act.put,sA,sZ,sS]
      refine gT 4 16 (.bool true) hS ?_
      simp only[Act.put,sA,sZ,sS]
      refine gT 5 17 (.slice (some ⟨g1,o1,none⟩) l.length c) hS ?_
      simp only[Act.put,sA,sZ,sS]
      refine gT 6 18 (.int .i64 i) hS ?_
      simp only[Act.put,sA,sZ,sS]
      refine gT 7 19 (.pointer (some ⟨g1,o1+i*2,none⟩)) hS ?_
      simp only[Act.put,sA,sZ,sS]
      refine gT 8 20 (.pointer (some ⟨g1,o1+i*2,none⟩)) hS ?_
      simp only[Act.put,sA,sZ,sS]
      refine gT 9 21 (.string (bs x.n)) hS ?_ (hv:=fun w' hs=>by(have h0:=hs.cell lgr y0;go_simp))
      simp only[Act.put,sA,sZ,sS]
      refine gT 10 22 (.slice (some ⟨g2,o2,none⟩) L.length cap) hS ?_
      simp only[Act.put,sA,sZ,sS]
      refine gT 11 23 (.int .i64 k) hS ?_
      simp only[Act.put,sA,sZ,sS]
      refine gT 12 24 (.pointer (some ⟨g2,o2+k*2,none⟩)) hS ?_
      simp only[Act.put,sA,sZ,sS]
      refine gT 13 25 (.pointer (some ⟨g2,o2+k*2,none⟩)) hS ?_
      simp only[Act.put,sA,sZ,sS]
      refine gT 14 26 (.string (bs y.n)) hS ?_ (hv:=fun w' hs=>by(have h0:=hs.cell lg2 z0;go_simp))
      simp only[Act.put,sA,sZ,sS]
      refine rg_call 15 (some 27) 28 #[.string (bs x.n),.string (bs y.n)] rfl rfl kB (by rfl) (fun w'=>by first | rfl | go_simp) (R:=fun v w'=>v= .bool false∧Ext (World.drew wy) w') ?_ ?_
      ·
       refine(HC.out (World.drew wy)).mono ?_
       rintro e w' ⟨rfl,h⟩
       exact⟨_,rfl,rfl,h⟩
      rintro _ wr1 ⟨rfl,hBr1⟩
      have hS1:=hS.ext hBr1
      refine⟨hS1,?_⟩
      simp only[Act.put,sA,sZ,sS]
      refine gT 16 28 (.bool true) hS1 ?_
      simp only[Act.put,sA,sZ,sS]
      refine gT 17 29 (.bool true) hS1 ?_
      simp only[Act.put,sA,sZ,sS]
      refine rg_done kB ?_
      go_wp2_with fail
      go_roundw
      case rel=>exact⟨k+1,by go_num,by omega,hX.trans hS1,HN⟩
      case measure=>exact mZ
    ·
     have hkI:¬(k:Int)< (L.length:Int):=by omega
     have HN:Hid (k=P):=Lh (by have:=HI.out;rw[List.drop_of_length_le kA]at this;simpa using this)
     clear HI
     go_wp2_with fail
     refine rg_begin (S:=Sx wy) kB (Sx.begin _) ?_
     have hS:Sx wy (World.drew wy):=(Sx.begin _)
     refine gT 0 12 (.int .i64 k) hS ?_
     simp only[Act.put,sA,sZ,sS]
     refine gT 1 13 (.slice oa L.length cap) hS ?_
     simp only[Act.put,sA,sZ,sS]
     refine gT 2 14 (.int .i64 L.length) hS ?_
     simp only[Act.put,sA,sZ,sS]
     refine gT 3 15 (.bool false) hS ?_
     simp only[Act.put,sA,sZ,sS]
     refine gT 4 16 (.bool false) hS ?_
     simp only[Act.put,sA,sZ,sS]
     refine rg_s 5 (some 17) rfl hS ?_
     simp only[Act.put,sA,sZ,sS]
     refine rg_s 6 (some 18) rfl hS ?_
     simp only[Act.put,sA,sZ,sS]
     refine rg_s 7 (some 19) rfl hS ?_
     simp only[Act.put,sA,sZ,sS]
     refine rg_s 8 (some 20) rfl hS ?_
     simp only[Act.put,sA,sZ,sS]
     refine rg_s 9 (some 21) rfl hS ?_
     simp only[Act.put,sA,sZ,sS]
     refine rg_s 10 (some 22) rfl hS ?_
     simp only[Act.put,sA,sZ,sS]
     refine rg_s 11 (some 23) rfl hS ?_
     simp only[Act.put,sA,sZ,sS]
     refine rg_s 12 (some 24) rfl hS ?_
     simp only[Act.put,sA,sZ,sS]
     refine rg_s 13 (some 25) rfl hS ?_
     simp only[Act.put,sA,sZ,sS]
     refine rg_s 14 (some 26) rfl hS ?_
     simp only[Act.put,sA,sZ,sS]
     refine rg_s 15 (some 27) rfl hS ?_
     simp only[Act.put,sA,sZ,sS]
     refine rg_s 16 (some 28) rfl hS ?_
     simp only[Act.put,sA,sZ,sS]
     refine gT 17 29 (.bool false) hS ?_
     simp only[Act.put,sA,sZ,sS]
     refine rg_done kB ?_
     go_wp2_with fail
     obtain rfl:=HN.out
     have hXw:Ext w (World.drew wy):=hXX.out.trans (hX.drew)
     have ho:=HH.out.1.ext (hX.drew)
     obtain⟨us,hrow,hreps⟩:=ho.rows
     have h1u:=hreps.one (flat_one one_attr L)
     obtain⟨vt,hvt,evt⟩:=src_take hrow HSZ.out.2 HSZ.out.1 k hk
     obtain⟨vd,hvd,evd⟩:=src_drop hrow HSZ.out.2 HSZ.out.1 k hk
     have u0:=((Ext.refl wy).drew).keep lgr y0
     have u1:=((Ext.refl wy).drew).keep lgr y1
     have lgu:g1< (World.drew wy).heap.size:=Nat.lt_of_lt_of_le lgr (((Ext.refl wy).drew)).size
     have hbw:w.heap.size≤(World.drew wy).heap.size:=hXw.size
     have HXW:=Lh hXw
     have HRO:=Lh (And.intro hreps ho)
     obtain⟨wv,hwv⟩:∃wv,wv=(World.drew wy):=⟨_,rfl⟩
     rw[←hwv]at hrow hvt hvd u0 u1 lgu hbw HXW HRO⊢
     clear hwv hreps ho hXw y0 y1 x0 x1 lg lgr hX
     refine rg_begin (S:=Sx wv) kB (Sx.begin _) ?_
     have hS:Sx wv (World.drew wv):=(Sx.begin _)
     refine gT 1 33 (.slice oa L.length cap) hS ?_
     simp only[Act.put,sA,sZ,sS]
     refine gT 2 34 (.int .i64 k) hS ?_
     simp only[Act.put,sA,sZ,sS]
     refine gT 3 35 (vt) hS ?_ (hv:=fun w' hs=>by exact exec_slice rfl (evt w'))
     simp only[Act.put,sA,sZ,sS]
     refine gT 5 37 (.slice (some ⟨g1,o1,none⟩) l.length c) hS ?_
     simp only[Act.put,sA,sZ,sS]
     refine gT 6 38 (.int .i64 i) hS ?_
     simp only[Act.put,sA,sZ,sS]
     refine gT 7 39 (.pointer (some ⟨g1,o1+i*2,none⟩)) hS ?_
     simp only[Act.put,sA,sZ,sS]
     refine gT 8 40 (.agg #[.string (bs x.n),.string (bs x.v)]) hS ?_ (hv:=fun w' hs=>by(have h0:=hs.cell lgu u0;have h1:=hs.cell lgu u1;go_simp))
     simp only[Act.put,sA,sZ,sS]
     refine gT 11 43 (.slice oa L.length cap) hS ?_
     simp only[Act.put,sA,sZ,sS]
     refine gT 12 44 (.int .i64 k) hS ?_
     simp only[Act.put,sA,sZ,sS]
     refine gT 13 45 (vd) hS ?_ (hv:=fun w' hs=>by exact exec_slice rfl (evd w'))
     simp only[Act.put,sA,sZ,sS]
     refine rg_two 0 9 kB ?_ ?_
     refine tk_new 0 (some 32) (.cells #[] 68) (fun n=> .slice (some ⟨n,0,none⟩) 0 0) rfl rfl (by rfl) kF ?_
     intro ga xa ega hxa hzxa hga
     have hSa:Sx wv xa:=hS.ext hxa
     refine⟨hSa,?_⟩
     simp only[Act.put,sA,sZ,sS]
     have ownA:xa.ownsRow wv.heap.size 68 2 (.slice (some ⟨ga,0,none⟩) 0 0) 0 []:=own_empty' (by rw[ega];exact(show Ext wv _ from hS).size) hga
     refine rg_two 4 9 kB ?_ ?_
     refine tk_src 4 (some 36) rfl rfl (by rfl) (.tmp 32) (.tmp 35) 64 rfl wv.heap.size 68 i0 (.agg #[.string ⟨#[]⟩,.string ⟨#[]⟩]) 2 32 Tryz.underlying64 hi hz0 hz1 hz2 rfl kD _ 0 [] rfl ownA vt (k) (us.take (k*2)) rfl (hvt.ext hSa) (fun u hu=>h1u u (List.mem_of_mem_take hu)) kC kA (show Ext wv _ from hSa).size ?_
     intro v2 xc hr2 hg2 ha2
     have hSc:Sx wv xc:=sx_grown hSa ownA hg2
     refine⟨hSc,?_⟩
     simp only[Act.put,sA,sZ,sS]
     have ownB:xc.ownsRow wv.heap.size 68 2 v2 (k) (us.take (k*2)):=by rw[Nat.zero_add,List.nil_append]at hr2;exact hr2
     refine rg_one 9 kB ?_
     refine tk_new 9 (some 41) (.cells #[.string (bs x.n),.string (bs x.v)] 68) (fun n=> .slice (some ⟨n,0,none⟩) 1 1) rfl rfl (by rfl) kF ?_
     intro gb xb egb hxb hzxb hC
     have hSb:Sx wv xb:=hSc.ext hxb
     refine⟨hSb,?_⟩
     simp only[Act.put,sA,sZ,sS]
     have lC:gb< xb.heap.size:=blk_lt hC
     have own':=rows_ext ownB hxb
     clear ownB
     have ownB:=own'
     clear own'
     refine rg_one 10 kB ?_
     refine tk_src 10 (some 42) rfl rfl (by rfl) (.tmp 36) (.tmp 41) 64 rfl wv.heap.size 68 i0 (.agg #[.string ⟨#[]⟩,.string ⟨#[]⟩]) 2 32 Tryz.underlying64 hi hz0 hz1 hz2 rfl kD _ (k) (us.take (k*2)) rfl ownB (.slice (some ⟨gb,0,none⟩) 1 1) 1 [.string (bs x.n),.string (bs x.v)] rfl (Src.block hC rfl) kG kC kA (show Ext wv _ from hSb).size ?_
     intro v3 xd hr3 hg3 ha3
     have hSd:Sx wv xd:=sx_grown hSb ownB hg3
     refine⟨hSd,?_⟩
     simp only[Act.put,sA,sZ,sS]
     refine rg_one 14 kB ?_
     refine tk_src 14 (some 46) rfl rfl (by rfl) (.tmp 42) (.tmp 45) 64 rfl wv.heap.size 68 i0 (.agg #[.string ⟨#[]⟩,.string ⟨#[]⟩]) 2 32 Tryz.underlying64 hi hz0 hz1 hz2 rfl kD _ (k+1) (us.take (k*2)++([.string (bs x.n),.string (bs x.v)]:List Value)) rfl hr3 vd (L.length - k) (us.drop (k*2)) rfl (hvd.ext hSd) (fun u hu=>h1u u (List.mem_of_mem_drop hu)) kC kA (show Ext wv _ from hSd).size ?_
     intro v4 xe hr4 hg4 ha4
     have hSe:Sx wv xe:=sx_grown hSd hr3 hg4
     refine⟨hSe,?_⟩
     simp only[Act.put,sA,sZ,sS]
     refine gT 15 3 (v4) hSe ?_
     simp only[Act.put,sA,sZ,sS]
     refine rg_done kB ?_
     rotate_left
     refine tk_new 9 (some 41) (.cells #[.string (bs x.n),.string (bs x.v)] 68) (fun n=> .slice (some ⟨n,0,none⟩) 1 1) rfl rfl (by rfl) kF ?_
     intro gb xb egb hxb hzxb hC
     have hSb:Sx wv xb:=hSa.ext hxb
     refine⟨hSb,?_⟩
     simp only[Act.put,sA,sZ,sS]
     have lC:gb< xb.heap.size:=blk_lt hC
     have own':=rows_ext ownA hxb
     clear ownA
     have ownA:=own'
     clear own'
     have neC:gb≠ga:=by have:=blk_lt hga;omega
     refine rg_one 4 kB ?_
     refine tk_src 4 (some 36) rfl rfl (by rfl) (.tmp 32) (.tmp 35) 64 rfl wv.heap.size 68 i0 (.agg #[.string ⟨#[]⟩,.string ⟨#[]⟩]) 2 32 Tryz.underlying64 hi hz0 hz1 hz2 rfl kD _ 0 [] rfl ownA vt (k) (us.take (k*2)) rfl (hvt.ext hSb) (fun u hu=>h1u u (List.mem_of_mem_take hu)) kC kA (show Ext wv _ from hSb).size ?_
     intro v2 xc hr2 hg2 ha2
     have hSc:Sx wv xc:=sx_grown hSb ownA hg2
     refine⟨hSc,?_⟩
     simp only[Act.put,sA,sZ,sS]
     have ownB:xc.ownsRow wv.heap.size 68 2 v2 (k) (us.take (k*2)):=by rw[Nat.zero_add,List.nil_append]at hr2;exact hr2
     have hC':=(hg2.block gb (blk_lt hC) (by intro e;exact neC (Option.some.inj e))).trans hC
     clear hC
     have hC:=hC'
     clear hC'
     refine rg_one 10 kB ?_
     refine tk_src 10 (some 42) rfl rfl (by rfl) (.tmp 36) (.tmp 41) 64 rfl wv.heap.size 68 i0 (.agg #[.string ⟨#[]⟩,.string ⟨#[]⟩]) 2 32 Tryz.underlying64 hi hz0 hz1 hz2 rfl kD _ (k) (us.take (k*2)) rfl ownB (.slice (some ⟨gb,0,none⟩) 1 1) 1 [.string (bs x.n),.string (bs x.v)] rfl (Src.block hC rfl) kG kC kA (show Ext wv _ from hSc).size ?_
     intro v3 xd hr3 hg3 ha3
     have hSd:Sx wv xd:=sx_grown hSc ownB hg3
     refine⟨hSd,?_⟩
     simp only[Act.put,sA,sZ,sS]
     refine rg_one 14 kB ?_
     refine tk_src 14 (some 46) rfl rfl (by rfl) (.tmp 42) (.tmp 45) 64 rfl wv.heap.size 68 i0 (.agg #[.string ⟨#[]⟩,.string ⟨#[]⟩]) 2 32 Tryz.underlying64 hi hz0 hz1 hz2 rfl kD _ (k+1) (us.take (k*2)++([.string (bs x.n),.string (bs x.v)]:List Value)) rfl hr3 vd (L.length - k) (us.drop (k*2)) rfl (hvd.ext hSd) (fun u hu=>h1u u (List.mem_of_mem_drop hu)) kC kA (show Ext wv _ from hSd).size ?_
     intro v4 xe hr4 hg4 ha4
     have hSe:Sx wv xe:=sx_grown hSd hr3 hg4
     refine⟨hSe,?_⟩
     simp only[Act.put,sA,sZ,sS]
     refine gT 15 3 (v4) hSe ?_
     simp only[Act.put,sA,sZ,sS]
     refine rg_done kB ?_
     rotate_left
     refine tk_new 9 (some 41) (.cells #[.string (bs x.n),.string (bs x.v)] 68) (fun n=> .slice (some ⟨n,0,none⟩) 1 1) rfl rfl (by rfl) kF ?_
     intro gb xb egb hxb hzxb hC
     have hSb:Sx wv xb:=hS.ext hxb
     refine⟨hSb,?_⟩
     simp only[Act.put,sA,sZ,sS]
     have lC:gb< xb.heap.size:=blk_lt hC
     refine rg_one 0 kB ?_
     refine tk_new 0 (some 32) (.cells #[] 68) (fun n=> .slice (some ⟨n,0,none⟩) 0 0) rfl rfl (by rfl) kF ?_
     intro ga xa ega hxa hzxa hga
     have hSa:Sx wv xa:=hSb.ext hxa
     refine⟨hSa,?_⟩
     simp only[Act.put,sA,sZ,sS]
     have ownA:xa.ownsRow wv.heap.size 68 2 (.slice (some ⟨ga,0,none⟩) 0 0) 0 []:=own_empty' (by rw[ega];exact(show Ext wv _ from hSb).size) hga
     have hC':=(Below.block hxa gb lC).trans hC
     clear hC
     have hC:=hC'
     clear hC'
     have lC':gb< xa.heap.size:=blk_lt hC
     have neC:gb≠ga:=by omega
     refine rg_one 4 kB ?_
     refine tk_src 4 (some 36) rfl rfl (by rfl) (.tmp 32) (.tmp 35) 64 rfl wv.heap.size 68 i0 (.agg #[.string ⟨#[]⟩,.string ⟨#[]⟩]) 2 32 Tryz.underlying64 hi hz0 hz1 hz2 rfl kD _ 0 [] rfl ownA vt (k) (us.take (k*2)) rfl (hvt.ext hSa) (fun u hu=>h1u u (List.mem_of_mem_take hu)) kC kA (show Ext wv _ from hSa).size ?_
     intro v2 xc hr2 hg2 ha2
     have hSc:Sx wv xc:=sx_grown hSa ownA hg2
     refine⟨hSc,?_⟩
     simp only[Act.put,sA,sZ,sS]
     have ownB:xc.ownsRow wv.heap.size 68 2 v2 (k) (us.take (k*2)):=by rw[Nat.zero_add,List.nil_append]at hr2;exact hr2
     have hC':=(hg2.block gb (blk_lt hC) (by intro e;exact neC (Option.some.inj e))).trans hC
     clear hC
     have hC:=hC'
     clear hC'
     refine rg_one 10 kB ?_
     refine tk_src 10 (some 42) rfl rfl (by rfl) (.tmp 36) (.tmp 41) 64 rfl wv.heap.size 68 i0 (.agg #[.string ⟨#[]⟩,.string ⟨#[]⟩]) 2 32 Tryz.underlying64 hi hz0 hz1 hz2 rfl kD _ (k) (us.take (k*2)) rfl ownB (.slice (some ⟨gb,0,none⟩) 1 1) 1 [.string (bs x.n),.string (bs x.v)] rfl (Src.block hC rfl) kG kC kA (show Ext wv _ from hSc).size ?_
     intro v3 xd hr3 hg3 ha3
     have hSd:Sx wv xd:=sx_grown hSc ownB hg3
     refine⟨hSd,?_⟩
     simp only[Act.put,sA,sZ,sS]
     refine rg_one 14 kB ?_
     refine tk_src 14 (some 46) rfl rfl (by rfl) (.tmp 42) (.tmp 45) 64 rfl wv.heap.size 68 i0 (.agg #[.string ⟨#[]⟩,.string ⟨#[]⟩]) 2 32 Tryz.underlying64 hi hz0 hz1 hz2 rfl kD _ (k+1) (us.take (k*2)++([.string (bs x.n),.string (bs x.v)]:List Value)) rfl hr3 vd (L.length - k) (us.drop (k*2)) rfl (hvd.ext hSd) (fun u hu=>h1u u (List.mem_of_mem_drop hu)) kC kA (show Ext wv _ from hSd).size ?_
     intro v4 xe hr4 hg4 ha4
     have hSe:Sx wv xe:=sx_grown hSd hr3 hg4
     refine⟨hSe,?_⟩
     simp only[Act.put,sA,sZ,sS]
     refine gT 15 3 (v4) hSe ?_
     simp only[Act.put,sA,sZ,sS]
     refine rg_done kB ?_
     rotate_left
     all_goals
      have hO:=Own.ins z_attr kA HRO.out.1 (Reps.cons (Rep.string _ _ _ (by rw[bs_size];exact hxl.1)) (Reps.cons (Rep.string _ _ _ (by rw[bs_size];exact hxl.2)) (Reps.nil _ _)):Reps wv (fun b=>False∧b< wv.heap.size) _ (attrC x)) (show Ext wv xe from hSe) hk hr4 hbw
      have hXE:=HXW.out.trans (show Ext wv xe from hSe)
      clear hr4 hg4 ha4 hrow
      go_wp2_with fail
      go_roundw
      case rel=>exact⟨i+1,insAt L k x,v4,by go_num,rfl,by omega,Lh (by rw[insAt_len,hL.out]),hXE,Lh ⟨hO,by rw[←HS.out];exact HH.out.2⟩⟩
      case measure=>exact mZ
  ·
   have hlI:¬(i:Int)< (l.length:Int):=by omega
   have HN:Hid (L=R):=Lh (by have:=HH.out.2;rw[List.drop_of_length_le kA,sortA]at this;exact this)
   have hown:=HH.out.1
   clear HH
   go_wp2_with fail
   go_ret
   refine⟨⟨dv,rfl,?_⟩,hX⟩
   rw[←HN.out]
   exact hown.rep.ok (fun b hb=>by rcases hb with h | h;exact h.elim;exact h)
end Go.Proofs.YtngmgjodcnknoaaGreatDoor
