/-
  Laws drawn from elder texts. Helper lemmas;no statement of the seat is proved here.
-/
import Derived.Test.YtngmgjodcnknoaaGreatDoorU5
namespace Go.Proofs.YtngmgjodcnknoaaGreatDoor
open Go.RowKit
set_option maxHeartbeats 32000000
set_option maxRecDepth 100000
set_option linter.unusedVariables false
set_option linter.unusedSimpArgs false
theorem steps_any (l:List Rule) (path:List Bytes) (a:Node) (p:Nat→Prop) (vl vp va vn:Value) (w:World) (hcnt:cntN a≤1048576) (hok:RulesOk l) (hpl:path.length≤1048576) (hp0:0< path.length)
    (hvl:Rep w p vl (rulesD l)) (hvp:Rep w p vp (strsD path)) (hva:Rep w p va (attrsD a.attrs)) (hvn:Rep w p vn (nodesD a.kids)):
    Calls Tryz.prog 66 #[vl,vp,.agg #[.int .i64 a.kind,.string (bs a.name),.string (bs a.text),va,vn]] w fun e w'=>Ret (fun b=>w.heap.size≤b) (stepsD (stepsS l path a.kids)) e w'∧Ext w w':=by
  obtain⟨la,lc,rfl,hlc1,hlc2⟩:=hvl.count z_rule kA
  obtain⟨pa,pc,rfl,hpc1,hpc2⟩:=hvp.count z_str kA
  obtain⟨gp,op,rfl,lgp,_⟩:=str_at hvp 0 hp0
  obtain⟨ba,ca,rfl,_,_⟩:=hva.count z_attr kA
  obtain⟨bn,cn,rfl,_,_⟩:=hvn.count z_node kA
  obtain⟨i0,hi,hz0,hz1,hz2⟩:=info_parts infoStr
  obtain⟨j0,ji,jz0,jz1,jz2⟩:=info_parts infoStep
  obtain⟨R,hR⟩:∃R,stepsS l path a.kids=R:=⟨_,rfl⟩
  rw[hR]
  have HR:Hid ([]++stepsS l path (a.kids.drop 0)=R):=Lh hR
  have hck:=cnt_kids a
  have hckl:=cntL_len a.kids
  have hkids:a.kids.length≤1048576:=by omega
  have hcl:cntL a.kids≤1048576:=by omega
  have HOK:=Lh hok
  have HPL:=Lh (strs_len hvp)
  clear hR hok hcnt hck hckl hva
  go_enter Tryz.func66,Tryz.ntmps66
  go_wp2_with fail
  obtain⟨w1,hw1⟩:∃w1,(w.alloc (.cells #[.int .i64 a.kind,.string (bs a.name),.string (bs a.text),.slice ba a.attrs.length ca,.slice bn a.kids.length cn] 66))=w1:=⟨_,rfl⟩
  have hE1:Ext w w1:=by rw[←hw1];exact(Ext.refl w).alloc _
  have l0:w.heap.size< w1.heap.size:=by rw[←hw1];simp
  have n4:w1.cell? ⟨w.heap.size,4,none⟩=some (.slice bn a.kids.length cn):=by rw[←hw1];simp[go_sem]
  rw[hw1]
  clear hw1
  go_loopw [7,8,9,10,11] (fun o t _ _ _ wr=>∃(i:Nat) (L:List Step) (dv:Value),t= .int .i64 i∧dv=o∧i≤a.kids.length∧L.length≤i∧Own wr (fun b=>w1.heap.size≤b) w1.heap.size 101 2 dv L.length (L.flatMap stepC)∧Ext w1 wr∧Hid (L++stepsS l path (a.kids.drop i)=R)) (fun _ t _ _ _ _=>downV a.kids.length t)
  case atStart=>exact⟨0,[],_,rfl,rfl,Nat.zero_le _,Nat.le_refl _,Own.nil _ _ _ _ _,Ext.refl _,HR⟩
  case round=>
    obtain⟨i,L,dv,rfl,rfl,hi2,hL,hown,hX,HI⟩:=hrel
    have hi0:=nZ0 i
    have hwz:=hX.size
    have n4r:=hX.keep l0 n4
    have m0:w.heap.size< wr.heap.size:=by omega
    by_cases hlt:i< a.kids.length
    · have hlI:(i:Int)< (a.kids.length:Int):=by omega
      have hEw:=hE1.trans hX
      obtain⟨gk,ok,za,zk,rfl,lgk,_,d0,d1,d2,d3,d4,hza,hzk⟩:=node_at hvn i hlt
      have e0:=hEw.keep lgk d0
      have e1:=hEw.keep lgk d1
      have e2:=hEw.keep lgk d2
      have e3:=hEw.keep lgk d3
      have e4:=hEw.keep lgk d4
      have lgkr:gk< wr.heap.size:=Nat.lt_of_lt_of_le lgk hEw.size
      have HS:Hid (stepsS l path (a.kids.drop i)=if findS (path++ [a.kids[i].name]) l 0< 0 then stepsS l path (a.kids.drop (i+1))else⟨a.kids[i].name,(keyS a.kids[i] (l.getD (findS (path++ [a.kids[i].name]) l 0).toNat noRule).keys).getD []⟩::stepsS l path (a.kids.drop (i+1))):=Lh (by rw[drop_one a.kids i hlt,stepsS])
      have hxc:=cntL_mem a.kids i hlt
      have hxn:=(node_len hvn i hlt).1
      obtain⟨x,hx⟩:∃x,a.kids[i]=x:=⟨_,rfl⟩
      rw[hx]at e0 e1 e2 hza hzk HS hxc hxn
      obtain⟨zab,zac,rfl,_,_⟩:=hza.count z_attr kA
      obtain⟨zkb,zkc,rfl,_,_⟩:=hzk.count z_node kA
      have hfr:=findS_range (path++ [x.name]) l 0
      have HFC:=Lh fun W v30 (q:Nat→Prop) (hE:Ext w W) (hr:Rep W q v30 (strsD (path++ [x.name])))=>find_q p q l (path++ [x.name]) _ v30 W (hvl.ext hE) hr
      obtain⟨fi,hfi⟩:∃fi,findS (path++ [x.name]) l 0=fi:=⟨_,rfl⟩
      rw[hfi]at HS hfr HFC
      have hXX:=Lh hX
      have HEW:=Lh hEw
      have HVP:=Lh hvp
      obtain⟨wz,hwzz⟩:∃wz,wz=wr:=⟨_,rfl⟩
      subst hwzz
      clear hx hfi d0 d1 d2 d3 d4
      go_wp2_with fail
      refine rg_begin (S:=Sx wz) kB (Sx.begin _) ?_
      have hS:Sx wz (World.drew wz):=(Sx.begin _)
      refine gT 0 19 (.slice la l.length lc) hS ?_
      simp only[Act.put,sA,sZ,sS]
      refine gT 2 21 (.slice (some ⟨gp,op,none⟩) path.length pc) hS ?_
      simp only[Act.put,sA,sZ,sS]
      refine gT 4 23 (.pointer (some ⟨w.heap.size,4,none⟩)) hS ?_
      simp only[Act.put,sA,sZ,sS]
      refine gT 5 24 (.slice (some ⟨gk,ok,none⟩) a.kids.length cn) hS ?_ (hv:=fun w' hs=>by(have h0:=hs.cell m0 n4r;go_simp))
      simp only[Act.put,sA,sZ,sS]
      refine gT 6 25 (.int .i64 i) hS ?_
      simp only[Act.put,sA,sZ,sS]
      refine gT 7 26 (.pointer (some ⟨gk,ok+i*5,none⟩)) hS ?_
      simp only[Act.put,sA,sZ,sS]
      refine gT 8 27 (.pointer (some ⟨gk,ok+i*5+1,none⟩)) hS ?_
      simp only[Act.put,sA,sZ,sS]
      refine gT 9 28 (.string (bs x.name)) hS ?_ (hv:=fun w' hs=>by(have h0:=hs.cell lgkr e1;go_simp))
      simp only[Act.put,sA,sZ,sS]
      refine rg_two 1 10 kB ?_ ?_
      refine tk_new 1 (some 20) (.cells #[] 9) (fun n=> .slice (some ⟨n,0,none⟩) 0 0) rfl rfl (by rfl) kF ?_
      intro ga xa ega hxa hzxa hga
      have hSa:Sx wz xa:=hS.ext hxa
      refine⟨hSa,?_⟩
      simp only[Act.put,sA,sZ,sS]
      have own20:xa.ownsRow wz.heap.size 9 1 (.slice (some ⟨ga,0,none⟩) 0 0) 0 []:=own_empty (by rw[ega];exact(show Ext wz _ from hS).size) hga
      refine rg_two 3 10 kB ?_ ?_
      refine tk_app 3 (some 22) rfl rfl (by rfl) (.tmp 20) (.tmp 21) 27 rfl wz.heap.size 9 i0 (.string ⟨#[]⟩) 1 16 Tryz.underlying27 hi hz0 hz1 hz2 rfl kD _ 0 [] rfl own20 ⟨gp,op,none⟩ path.length pc (path.map fun x=>Value.string (bs x)) rfl kI (strs_cells (HVP.out.ext (HEW.out.trans hSa))) kR kC kA (show Ext wz _ from hSa).size ?_
      intro v22 xc hr22 hg22 ha22
      have hSc:Sx wz xc:=sx_grown hSa own20 hg22
      refine⟨hSc,?_⟩
      simp only[Act.put,sA,sZ,sS]
      have own22:xc.ownsRow wz.heap.size 9 1 v22 path.length (path.map fun x=>Value.string (bs x)):=by rw[Nat.zero_add,List.nil_append]at hr22;exact hr22
      refine rg_one 10 kB ?_
      refine tk_new 10 (some 29) (.cells #[.string (bs x.name)] 9) (fun n=> .slice (some ⟨n,0,none⟩) 1 1) rfl rfl (by rfl) kF ?_
      intro gb xb egb hxb hzxb h29
      have hSb:Sx wz xb:=hSc.ext hxb
      refine⟨hSb,?_⟩
      simp only[Act.put,sA,sZ,sS]
      have own22':=rows_ext own22 hxb
      clear own22
      have own22:=own22'
      clear own22'
      have cell29:=blk_cell (k:=0) h29 rfl
      refine rg_one 11 kB ?_
      refine tk_app 11 (some 30) rfl rfl (by rfl) (.tmp 22) (.tmp 29) 27 rfl wz.heap.size 9 i0 (.string ⟨#[]⟩) 1 16 Tryz.underlying27 hi hz0 hz1 hz2 rfl kD _ path.length (path.map fun x=>Value.string (bs x)) rfl own22 ⟨gb,0,none⟩ 1 1 [.string (bs x.name)] rfl rfl kO kE kC kA (show Ext wz _ from hSb).size ?_
      intro v30 xd hr30 hg30 ha30
      have hSd:Sx wz xd:=sx_grown hSb own22 hg30
      refine⟨hSd,?_⟩
      simp only[Act.put,sA,sZ,sS]
      have hrep30:Rep xd (fun b=>False∨wz.heap.size≤b) v30 (strsD (path++ [x.name])):=Own.rep (p:=fun _=>False) (e:=9) (n:=path.length+1) ⟨_,hr30,by have:=strs_reps xd (fun b=>False∧some b≠v30.ownBlock∧b< xd.heap.size) (path++ [x.name]) (fun i hi=>by rw[List.getElem_append];split;exact HPL.out _ _;simpa using hxn);rw[List.map_append]at this;exact this⟩
      refine rg_call 12 (some 31) 97 #[.slice la l.length lc,v30] rfl rfl kB (by rfl) (fun w'=>by first | rfl | go_simp) (R:=fun v w'=>v= .int .i64 fi∧Ext xd w') ?_ ?_
      · refine((HFC.out xd v30 _ (HEW.out.trans hSd) hrep30).mono fun e w' h=>(⟨h.1,h.2.ext⟩:_∧Ext _ w')).mono ?_
        rintro e w' ⟨rfl,h⟩
        exact⟨_,rfl,rfl,h⟩
      rintro _ wr1 ⟨rfl,hBr1⟩
      have hS1:=hSd.ext hBr1
      refine⟨hS1,?_⟩
      simp only[Act.put,sA,sZ,sS]
      refine gT 13 9 (.int .i64 fi) hS1 ?_
      simp only[Act.put,sA,sZ,sS]
      refine rg_done kB ?_
      rotate_left
      refine tk_new 10 (some 29) (.cells #[.string (bs x.name)] 9) (fun n=> .slice (some ⟨n,0,none⟩) 1 1) rfl rfl (by rfl) kF ?_
      intro gb xb egb hxb hzxb h29
      have hSb:Sx wz xb:=hSa.ext hxb
      refine⟨hSb,?_⟩
      simp only[Act.put,sA,sZ,sS]
      have own20':=rows_ext own20 hxb
      clear own20
      have own20:=own20'
      clear own20'
      have cell29:=blk_cell (k:=0) h29 rfl
      have l29:=blk_lt h29
      have ne29:gb≠ga:=by have:=blk_lt hga;omega
      refine rg_one 3 kB ?_
      refine tk_app 3 (some 22) rfl rfl (by rfl) (.tmp 20) (.tmp 21) 27 rfl wz.heap.size 9 i0 (.string ⟨#[]⟩) 1 16 Tryz.underlying27 hi hz0 hz1 hz2 rfl kD _ 0 [] rfl own20 ⟨gp,op,none⟩ path.length pc (path.map fun x=>Value.string (bs x)) rfl kI (strs_cells (HVP.out.ext (HEW.out.trans hSb))) kR kC kA (show Ext wz _ from hSb).size ?_
      intro v22 xc hr22 hg22 ha22
      have hSc:Sx wz xc:=sx_grown hSb own20 hg22
      refine⟨hSc,?_⟩
      simp only[Act.put,sA,sZ,sS]
      have own22:xc.ownsRow wz.heap.size 9 1 v22 path.length (path.map fun x=>Value.string (bs x)):=by rw[Nat.zero_add,List.nil_append]at hr22;exact hr22
      have cell29':=hg22.cell cell29 (by intro e;exact ne29 (Option.some.inj e))
      clear cell29
      have cell29:=cell29'
      clear cell29'
      refine rg_one 11 kB ?_
      refine tk_app 11 (some 30) rfl rfl (by rfl) (.tmp 22) (.tmp 29) 27 rfl wz.heap.size 9 i0 (.string ⟨#[]⟩) 1 16 Tryz.underlying27 hi hz0 hz1 hz2 rfl kD _ path.length (path.map fun x=>Value.string (bs x)) rfl own22 ⟨gb,0,none⟩ 1 1 [.string (bs x.name)] rfl rfl kO kE kC kA (show Ext wz _ from hSc).size ?_
      intro v30 xd hr30 hg30 ha30
      have hSd:Sx wz xd:=sx_grown hSc own22 hg30
      refine⟨hSd,?_⟩
      simp only[Act.put,sA,sZ,sS]
      have hrep30:Rep xd (fun b=>False∨wz.heap.size≤b) v30 (strsD (path++ [x.name])):=Own.rep (p:=fun _=>False) (e:=9) (n:=path.length+1) ⟨_,hr30,by have:=strs_reps xd (fun b=>False∧some b≠v30.ownBlock∧b< xd.heap.size) (path++ [x.name]) (fun i hi=>by rw[List.getElem_append];split;exact HPL.out _ _;simpa using hxn);rw[List.map_append]at this;exact this⟩
      refine rg_call 12 (some 31) 97 #[.slice la l.length lc,v30] rfl rfl kB (by rfl) (fun w'=>by first | rfl | go_simp) (R:=fun v w'=>v= .int .i64 fi∧Ext xd w') ?_ ?_
      · refine((HFC.out xd v30 _ (HEW.out.trans hSd) hrep30).mono fun e w' h=>(⟨h.1,h.2.ext⟩:_∧Ext _ w')).mono ?_
        rintro e w' ⟨rfl,h⟩
        exact⟨_,rfl,rfl,h⟩
      rintro _ wr1 ⟨rfl,hBr1⟩
      have hS1:=hSd.ext hBr1
      refine⟨hS1,?_⟩
      simp only[Act.put,sA,sZ,sS]
      refine gT 13 9 (.int .i64 fi) hS1 ?_
      simp only[Act.put,sA,sZ,sS]
      refine rg_done kB ?_
      rotate_left
      refine tk_new 10 (some 29) (.cells #[.string (bs x.name)] 9) (fun n=> .slice (some ⟨n,0,none⟩) 1 1) rfl rfl (by rfl) kF ?_
      intro gb xb egb hxb hzxb h29
      have hSb:Sx wz xb:=hS.ext hxb
      refine⟨hSb,?_⟩
      simp only[Act.put,sA,sZ,sS]
      refine rg_one 1 kB ?_
      refine tk_new 1 (some 20) (.cells #[] 9) (fun n=> .slice (some ⟨n,0,none⟩) 0 0) rfl rfl (by rfl) kF ?_
      intro ga xa ega hxa hzxa hga
      have hSa:Sx wz xa:=hSb.ext hxa
      refine⟨hSa,?_⟩
      simp only[Act.put,sA,sZ,sS]
      have own20:xa.ownsRow wz.heap.size 9 1 (.slice (some ⟨ga,0,none⟩) 0 0) 0 []:=own_empty (by rw[ega];exact(show Ext wz _ from hSb).size) hga
      have hgc:=(show Ext _ xa from hxa)
      have cell29:=hgc.keep (blk_lt h29) (blk_cell (k:=0) h29 rfl)
      have l29:gb< xa.heap.size:=Nat.lt_of_lt_of_le (blk_lt h29) hgc.size
      have ne29:gb≠ga:=by have:=blk_lt h29;omega
      clear hgc
      refine rg_one 3 kB ?_
      refine tk_app 3 (some 22) rfl rfl (by rfl) (.tmp 20) (.tmp 21) 27 rfl wz.heap.size 9 i0 (.string ⟨#[]⟩) 1 16 Tryz.underlying27 hi hz0 hz1 hz2 rfl kD _ 0 [] rfl own20 ⟨gp,op,none⟩ path.length pc (path.map fun x=>Value.string (bs x)) rfl kI (strs_cells (HVP.out.ext (HEW.out.trans hSa))) kR kC kA (show Ext wz _ from hSa).size ?_
      intro v22 xc hr22 hg22 ha22
      have hSc:Sx wz xc:=sx_grown hSa own20 hg22
      refine⟨hSc,?_⟩
      simp only[Act.put,sA,sZ,sS]
      have own22:xc.ownsRow wz.heap.size 9 1 v22 path.length (path.map fun x=>Value.string (bs x)):=by rw[Nat.zero_add,List.nil_append]at hr22;exact hr22
      have cell29':=hg22.cell cell29 (by intro e;exact ne29 (Option.some.inj e))
      clear cell29
      have cell29:=cell29'
      clear cell29'
      refine rg_one 11 kB ?_
      refine tk_app 11 (some 30) rfl rfl (by rfl) (.tmp 22) (.tmp 29) 27 rfl wz.heap.size 9 i0 (.string ⟨#[]⟩) 1 16 Tryz.underlying27 hi hz0 hz1 hz2 rfl kD _ path.length (path.map fun x=>Value.string (bs x)) rfl own22 ⟨gb,0,none⟩ 1 1 [.string (bs x.name)] rfl rfl kO kE kC kA (show Ext wz _ from hSc).size ?_
      intro v30 xd hr30 hg30 ha30
      have hSd:Sx wz xd:=sx_grown hSc own22 hg30
      refine⟨hSd,?_⟩
      simp only[Act.put,sA,sZ,sS]
      have hrep30:Rep xd (fun b=>False∨wz.heap.size≤b) v30 (strsD (path++ [x.name])):=Own.rep (p:=fun _=>False) (e:=9) (n:=path.length+1) ⟨_,hr30,by have:=strs_reps xd (fun b=>False∧some b≠v30.ownBlock∧b< xd.heap.size) (path++ [x.name]) (fun i hi=>by rw[List.getElem_append];split;exact HPL.out _ _;simpa using hxn);rw[List.map_append]at this;exact this⟩
      refine rg_call 12 (some 31) 97 #[.slice la l.length lc,v30] rfl rfl kB (by rfl) (fun w'=>by first | rfl | go_simp) (R:=fun v w'=>v= .int .i64 fi∧Ext xd w') ?_ ?_
      · refine((HFC.out xd v30 _ (HEW.out.trans hSd) hrep30).mono fun e w' h=>(⟨h.1,h.2.ext⟩:_∧Ext _ w')).mono ?_
        rintro e w' ⟨rfl,h⟩
        exact⟨_,rfl,rfl,h⟩
      rintro _ wr1 ⟨rfl,hBr1⟩
      have hS1:=hSd.ext hBr1
      refine⟨hS1,?_⟩
      simp only[Act.put,sA,sZ,sS]
      refine gT 13 9 (.int .i64 fi) hS1 ?_
      simp only[Act.put,sA,sZ,sS]
      refine rg_done kB ?_
      rotate_left
      all_goals
        have hX1:=hXX.out.trans hS1
        have hown1:=hown.ext hS1
        have hbl1:Hid (∀b,some b=dv.ownBlock→b< wr1.heap.size):=Lh (fun b hb=>by obtain⟨us',h',_⟩:=hown1.rows;exact(h'.lt b hb.symm).2)
        clear hown hwz
        by_cases hneg:fi< 0
        · have HN:Hid (L++stepsS l path (a.kids.drop (i+1))=R):=Lh (by rw[←HI.out,HS.out,if_pos hneg])
          clear HS HI
          go_wp2_with fail
          go_roundw
          case rel=>exact⟨i+1,L,dv,by go_num,rfl,by omega,by omega,hown1,hX1,HN⟩
          case measure=>exact mZ
        · obtain⟨j,hj⟩:∃j:Nat,fi=(j:Int):=⟨fi.toNat,by omega⟩
          subst hj
          have hjl:j< l.length:=by omega
          have hjlI:(j:Int)< (l.length:Int):=by omega
          have hj0:=nZ0 j
          have hnegI:¬(j:Int)< 0:=hneg
          obtain⟨gr,or,vrp,vrk,rfl,lgr,_,r0,r1,hrp,hrk⟩:=rule_at hvl j hjl
          have hE1w:=HEW.out.trans hS1
          have s0:=hE1w.keep lgr r0
          have s1:=hE1w.keep lgr r1
          have lgrr:gr< wr1.heap.size:=Nat.lt_of_lt_of_le lgr hE1w.size
          have t0:=hS1.keep lgkr e0
          have t1:=hS1.keep lgkr e1
          have t2:=hS1.keep lgkr e2
          have t3:=hS1.keep lgkr e3
          have t4:=hS1.keep lgkr e4
          have lgk1:gk< wr1.heap.size:=Nat.lt_of_lt_of_le lgkr (show Ext wz wr1 from hS1).size
          have n41:=hS1.keep m0 n4r
          have m1:w.heap.size< wr1.heap.size:=Nat.lt_of_lt_of_le m0 (show Ext wz wr1 from hS1).size
          obtain⟨rpa,rpc,rfl,_,_⟩:=hrp.count z_str kA
          obtain⟨rka,rkc,rfl,_,_⟩:=hrk.count z_str kA
          have hro:=HOK.out _ (List.getElem_mem hjl)
          have HSJ:Hid (L++([⟨x.name,(keyS x l[j].keys).getD []⟩]++stepsS l path (a.kids.drop (i+1)))=R):=Lh (by
            rw[←HI.out,HS.out,if_neg hneg,Int.toNat_natCast,List.getD_eq_getElem?_getD,List.getElem?_eq_getElem hjl];rfl)
          obtain⟨rj,hrj⟩:∃rj,l[j]=rj:=⟨_,rfl⟩
          rw[hrj]at hrp hrk hro HSJ s0 s1
          have HKC:=Lh fun W (hE:Ext w W)=>key_any rj.keys rj.path x p p _ _ _ _ W kA hro.1 hro.2 (hrp.ext hE) (hrk.ext hE) (hza.ext hE) (hzk.ext hE)
          obtain⟨K,hK⟩:∃K,(keyS x rj.keys).getD []=K:=⟨_,rfl⟩
          obtain⟨kb,hkb⟩:∃kb,(keyS x rj.keys).isSome=kb:=⟨_,rfl⟩
          rw[hK,hkb]at HKC
          rw[hK]at HSJ
          have HE1W:=Lh hE1w
          clear hrj hK hkb hro hrp hrk HS HI hneg r0 r1
          go_wp2_with fail
          refine rg_begin (S:=Sx wr1) kB (Sx.begin _) ?_
          have hSb:Sx wr1 (World.drew wr1):=(Sx.begin _)
          refine gT 0 35 (.slice (some ⟨gr,or,none⟩) l.length lc) hSb ?_
          simp only[Act.put,sA,sZ,sS]
          refine gT 1 36 (.int .i64 j) hSb ?_
          simp only[Act.put,sA,sZ,sS]
          refine gT 2 37 (.pointer (some ⟨gr,or+j*2,none⟩)) hSb ?_
          simp only[Act.put,sA,sZ,sS]
          refine gT 3 38 (.agg #[.slice rpa rj.path.length rpc,.slice rka rj.keys.length rkc]) hSb ?_ (hv:=fun w' hs=>by(have h0:=hs.cell lgrr s0;have h1:=hs.cell lgrr s1;go_simp))
          simp only[Act.put,sA,sZ,sS]
          refine gT 4 39 (.pointer (some ⟨w.heap.size,4,none⟩)) hSb ?_
          simp only[Act.put,sA,sZ,sS]
          refine gT 5 40 (.slice (some ⟨gk,ok,none⟩) a.kids.length cn) hSb ?_ (hv:=fun w' hs=>by(have h0:=hs.cell m1 n41;go_simp))
          simp only[Act.put,sA,sZ,sS]
          refine gT 6 41 (.int .i64 i) hSb ?_
          simp only[Act.put,sA,sZ,sS]
          refine gT 7 42 (.pointer (some ⟨gk,ok+i*5,none⟩)) hSb ?_
          simp only[Act.put,sA,sZ,sS]
          refine gT 8 43 (.agg #[.int .i64 x.kind,.string (bs x.name),.string (bs x.text),.slice zab x.attrs.length zac,.slice zkb x.kids.length zkc]) hSb ?_ (hv:=fun w' hs=>by(have h0:=hs.cell lgk1 t0;have h1:=hs.cell lgk1 t1;have h2:=hs.cell lgk1 t2;have h3:=hs.cell lgk1 t3;have h4:=hs.cell lgk1 t4;go_simp))
          simp only[Act.put,sA,sZ,sS]
          refine rg_call 9 (some 44) 100 #[.agg #[.slice rpa rj.path.length rpc,.slice rka rj.keys.length rkc],.agg #[.int .i64 x.kind,.string (bs x.name),.string (bs x.text),.slice zab x.attrs.length zac,.slice zkb x.kids.length zkc]] rfl rfl kB (by rfl) (fun w'=>by first | rfl | go_simp) (R:=fun v w'=>∃kv,v= .tuple #[kv,.bool kb]∧Rep w' (fun b=>wr1.heap.size≤b) kv (strsD K)∧Ext (World.drew wr1) w') ?_ ?_
          · refine(HKC.out (World.drew wr1) (HE1W.out.trans hSb)).mono ?_
            rintro e w' ⟨⟨kv,rfl,hkv⟩,h⟩
            exact⟨_,rfl,kv,rfl,hkv,h⟩
          rintro _ wrb1 ⟨kv,rfl,hkv,hBrb1⟩
          have hSb1:=hSb.ext hBrb1
          refine⟨hSb1,?_⟩
          simp only[Act.put,sA,sZ,sS]
          refine gT 10 34 (.tuple #[kv,.bool kb]) hSb1 ?_
          simp only[Act.put,sA,sZ,sS]
          refine gT 11 45 (kv) hSb1 ?_
          simp only[Act.put,sA,sZ,sS]
          refine gT 12 46 (.bool kb) hSb1 ?_
          simp only[Act.put,sA,sZ,sS]
          refine gT 13 10 (kv) hSb1 ?_
          simp only[Act.put,sA,sZ,sS]
          refine gT 14 11 (.bool kb) hSb1 ?_
          simp only[Act.put,sA,sZ,sS]
          refine rg_done kB ?_
          have hX2:=hX1.trans hSb1
          have hown2:=hown1.ext hSb1
          have hlow:=hX1.size
          have hszb:=(show Ext wr1 wrb1 from hSb1).size
          have tb1:=hSb1.keep lgk1 t1
          have nb4:=hSb1.keep m1 n41
          have lgkb:gk< wrb1.heap.size:=by omega
          have mb:w.heap.size< wrb1.heap.size:=by omega
          clear hown1 t0 t1 t2 t3 t4 n41 s0 s1 e0 e1 e2 e3 e4 n4r
          obtain⟨us,hrow,hreps⟩:=hown2.rows
          have hkl:=hkv.lt
          obtain⟨kva,kvc,rfl,_,_⟩:=hkv.count z_str kA
          have HKV:=Lh hkl
          clear hkv hkl
          go_wp2_with (at_builtin;refine wpList_append_own_at _ rfl (.tmp 47) (.tmp 56) _ rfl w1.heap.size 101 j0 (.agg #[.string ⟨#[]⟩,.slice none 0 0]) 2 40 Tryz.underlying134 ji jz0 jz1 jz2 rfl kD dv L.length us rfl (hrow.alloc _) ⟨wrb1.heap.size,0,none⟩ 1 1 [.string (bs x.name),.slice kva K.length kvc] rfl rfl new_two kG kC kA kM ?_;intro v2 w3 hown3 hgrow3 _ hat3)
          have hX3:Ext w1 w3:=hX2.grown_own hrow hgrow3
          have hO3:Own w3 (fun b=>w1.heap.size≤b) w1.heap.size 101 2 v2 (L++ [(⟨x.name,K⟩:Step)]).length ((L++ [(⟨x.name,K⟩:Step)]).flatMap stepC):=by
            rw[List.length_append,List.flatMap_append]
            refine Own.push ((hreps.ext ((Ext.refl wrb1).alloc _)).ok fun b hb=>⟨hb.1,hb.2.1,by simp;omega⟩) (Reps.cons (Rep.string _ _ _ (by rw[bs_size];exact hxn)) (Reps.cons ((HKV.out.ext ((Ext.refl wrb1).alloc _)).ok fun b hb=>⟨by omega,fun e=> ?_,by simp;omega⟩) (Reps.nil _ _))) hown3 hgrow3 hat3
            have:=hbl1.out b e
            omega
          clear hown3 hgrow3 hrow hreps hown2 hX2 hat3
          go_wp2_with fail
          go_roundw
          case rel=>exact⟨i+1,L++ [⟨x.name,K⟩],v2,by go_num,rfl,by omega,by rw[List.length_append];simp;omega,hO3,hX3,Lh (by rw[List.append_assoc];exact HSJ.out)⟩
          case measure=>exact mZ
    · have hlI:¬(i:Int)< (a.kids.length:Int):=by omega
      have HN:Hid (L=R):=Lh (by have:=HI.out;rw[List.drop_of_length_le kA,stepsS,List.append_nil]at this;exact this)
      clear HI
      go_wp2_with fail
      go_ret
      refine⟨⟨dv,rfl,?_⟩,hE1.trans hX⟩
      rw[←HN.out]
      exact hown.rep.ok (fun b hb=>by have:=hE1.size;rcases hb with h | h<;> omega)
structure Held where
  v:Int
  n:Node
def heldC (h:Held):List DV:=intD h.v::nodeC h.n
def heldsD (l:List Held):DV:= .s 6 (l.flatMap heldC)
theorem z_held (x:Held):(heldC x).length=6:=by unfold heldC;rw[List.length_cons,z_node]
theorem held_at {w:World} {p:Nat→Prop} {a:Option Addr} {len cap:Nat} {l:List Held} (h:Rep w p (.slice a len cap) (heldsD l)) (i:Nat) (hi:i< l.length):
    ∃b off x y,a=some ⟨b,off,none⟩∧b< w.heap.size∧p b∧w.cell? ⟨b,off+i*6,none⟩=some (.int .i64 l[i].v)∧w.cell? ⟨b,off+i*6+1,none⟩=some (.int .i64 l[i].n.kind)∧w.cell? ⟨b,off+i*6+2,none⟩=some (.string (bs l[i].n.name))∧w.cell? ⟨b,off+i*6+3,none⟩=some (.string (bs l[i].n.text))∧
      w.cell? ⟨b,off+i*6+4,none⟩=some x∧w.cell? ⟨b,off+i*6+5,none⟩=some y∧Rep w p x (attrsD l[i].n.attrs)∧Rep w p y (nodesD l[i].n.kids):=by
  obtain⟨b,off,ha,hb,hp,hc⟩:=elem_at z_held h kA i hi
  unfold heldC at hc
  rw[nodeC_eq]at hc
  obtain⟨u,hu,hr⟩:=hc 0 _ rfl
  obtain⟨u1,hu1,hr1⟩:=hc 1 _ rfl
  obtain⟨u2,hu2,hr2⟩:=hc 2 _ rfl
  obtain⟨u3,hu3,hr3⟩:=hc 3 _ rfl
  obtain⟨u4,hu4,hr4⟩:=hc 4 _ rfl
  obtain⟨u5,hu5,hr5⟩:=hc 5 _ rfl
  exact⟨b,off,u4,u5,ha,hb,hp,by rw[←hr.is];exact hu,by rw[←hr1.is];exact hu1,by rw[←hr2.is];exact hu2,by rw[←hr3.is];exact hu3,hu4,hu5,hr4,hr5⟩
theorem infoInt:(Tryz.prog.info? 3).map (fun i=>(i.zero,i.size,i.bytes))=some (some (.int .i64 0),1,8):=by kernel_rfl
theorem versions_any (p:Nat→Prop) (l:List Held) (v:Value) (w:World) (hl:l.length≤1048576) (h:Rep w p v (heldsD l)):
    Calls Tryz.prog 63 #[v] w fun e w'=>Ret (fun b=>w.heap.size≤b) (spansD (spansOf (flOf (l.map (·.v))))) e w'∧Ext w w':=by
  obtain⟨a,c,rfl,hc1,hc2⟩:=h.count z_held kA
  obtain⟨R,hR⟩:∃R,l.map (·.v)=R:=⟨_,rfl⟩
  rw[hR]
  have HR:=Lh hR
  obtain⟨i0,hi,hz0,hz1,hz2⟩:=info_parts infoInt
  clear hR
  go_enter Tryz.func63,Tryz.ntmps63
  go_wp2_with fail
  go_loopw [3,4] (fun o t wr=>∃(i:Nat) (L:List Int) (dv:Value),t= .int .i64 i∧dv=o∧i≤l.length∧L.length=i∧Own wr (fun _=>False) w.heap.size 3 1 dv L.length (L.flatMap fun x=> [intD x])∧Ext w wr∧Hid (L=(l.take i).map (·.v))) (fun _ t _=>downV l.length t)
  case atStart=>exact⟨0,[],_,rfl,rfl,Nat.zero_le _,rfl,Own.nil _ _ _ _ _,Ext.refl _,Lh kI⟩
  case round=>
    obtain⟨i,L,dv,rfl,rfl,hi2,hL,hown,hX,HI⟩:=hrel
    have hi0:=nZ0 i
    have hwz:=hX.size
    by_cases hlt:i< l.length
    · have hlI:(i:Int)< (l.length:Int):=by omega
      obtain⟨g,o,x1,x2,rfl,lg,_,d0,_⟩:=held_at (h.ext hX) i hlt
      have HN:Hid (L++ [l[i].v]=(l.take (i+1)).map (·.v)):=Lh (by rw[List.take_add_one,List.getElem?_eq_getElem hlt,List.map_append,HI.out];rfl)
      obtain⟨x,hx⟩:∃x,l[i].v=x:=⟨_,rfl⟩
      rw[hx]at d0 HN
      have hLi:=Lh hL
      have hLb:L.length≤1048576:=by omega
      clear hx HI hL
      obtain⟨us,hrow,hreps⟩:=hown.rows
      go_wp2_with (at_builtin;refine wpList_append_own_at _ rfl (.tmp 11) (.tmp 17) _ rfl w.heap.size 3 i0 (.int .i64 0) 1 8 Tryz.underlying91 hi hz0 hz1 hz2 rfl kD dv L.length us rfl (hrow.alloc _) ⟨wr.heap.size,0,none⟩ 1 1 [.int .i64 x] rfl rfl new_one kE kC kA kM ?_;intro v2 w3 hown2 hgrow2 _ hat2)
      have hX2:Ext w w3:=hX.grown_own hrow hgrow2
      have hO2:Own w3 (fun _=>False) w.heap.size 3 1 v2 (L++ [x]).length ((L++ [x]).flatMap fun x=> [intD x]):=by
        rw[List.length_append,List.flatMap_append]
        exact Own.push ((hreps.ext ((Ext.refl wr).alloc _)).ok fun b hb=>⟨hb.1,hb.2.1,by simp;omega⟩) (Reps.cons (Rep.int _ _ _ _) (Reps.nil _ _)) hown2 hgrow2 hat2
      clear hown2 hgrow2 hrow hreps hown hX hat2
      go_wp2_with fail
      go_roundw
      case rel=>exact⟨i+1,L++ [x],v2,by go_num,rfl,by omega,by rw[List.length_append,hLi.out];rfl,hO2,hX2,HN⟩
      case measure=>exact mZ
    · have hlI:¬(i:Int)< (l.length:Int):=by omega
      have HN:Hid (L=R):=Lh (by rw[HI.out,←HR.out,List.take_of_length_le kA])
      have hrep:Rep wr (fun b=>False∨w.heap.size≤b) dv (intsD L):=hown.rep
      have HO:=Lh fun W (hE:Ext wr W)=>of_any _ L dv W (hrep.ext hE)
      clear HI hrep hL
      go_wp2_with fail
      refine(HO.out _ (Ext.refl _)).mono ?_
      rintro e w2 ⟨⟨u,rfl,hru⟩,hB2⟩
      go_wp2_with fail
      go_ret
      exact⟨⟨u,rfl,by rw[←HN.out];exact hru.ok (fun b hb=>Nat.le_trans hX.size hb)⟩,hX.trans hB2⟩
mutual
def elemsN:Node→Nat
  | .mk k _ _ _ ks=>if k≠1 then 0 else 1+elemsL ks
def elemsL:List Node→Nat
  | []=>0
  | n::r=>elemsN n+elemsL r
end
mutual
theorem elemsN_le:∀n:Node,elemsN n≤cntN n
  | .mk k n t la ks=>by rw[elemsN,cntN];have:=elemsL_le ks;split<;> omega
theorem elemsL_le:∀l:List Node,elemsL l≤cntL l
  | []=>by simp[elemsL,cntL]
  | n::r=>by rw[elemsL,cntL];have h1:=elemsN_le n;have h2:=elemsL_le r;omega
end
theorem elemsL_get (l:List Node) (i:Nat) (h:i< l.length):elemsL (l.drop i)=elemsN l[i]+elemsL (l.drop (i+1)):=by rw[drop_one l i h,elemsL]
theorem elements_any:∀(N:Nat) (a:Node) (p:Nat→Prop) (va vk:Value) (w:World),nsz a≤N→cntN a≤1048576→Rep w p va (attrsD a.attrs)→Rep w p vk (nodesD a.kids)→
    Calls Tryz.prog 114 #[.agg #[.int .i64 a.kind,.string (bs a.name),.string (bs a.text),va,vk]] w fun e w'=>e= .returned (.int .i64 (elemsN a))∧Ext w w':=by
  intro N
  induction N with
  | zero=>intro a p va vk w hN;cases a;rw[nsz]at hN;omega
  | succ N ih=>
    intro a p va vk w hN hcnt hva hvk
    have hkid:=fun i h=>kid_lt a i h
    have hcl:=elemsN_le a
    obtain⟨k,nm,tx,la,ks⟩:=a
    simp only[Node.kind,Node.name,Node.text,Node.attrs,Node.kids]at*
    obtain⟨ba,ca,rfl,ha1,ha2⟩:=hva.count z_attr kA
    obtain⟨bk,ck,rfl,hk1,hk2⟩:=hvk.count z_node kA
    obtain⟨R,hR⟩:∃R,elemsN (.mk k nm tx la ks)=R:=⟨_,rfl⟩
    rw[hR]at hcl⊢
    rw[elemsN]at hR
    have HM:Hid (∀(i:Nat) (h:i< ks.length),nsz ks[i]≤N):=Lh (fun i h=>by have:=hkid i h;omega)
    have HCM:Hid (∀(i:Nat) (h:i< ks.length),cntN ks[i]≤1048576):=Lh (fun i h=>by have:=cntL_mem ks i h;rw[cntN]at hcnt;omega)
    have hRb:R≤1048576:=by omega
    have IH:=Lh ih
    clear hkid hN ih hcl hcnt
    by_cases h1:k=1
    · subst h1
      have t1:((1:Int) !=1)=false:=by rfl
      rw[if_neg kI]at hR
      have HR:Hid (1+elemsL (ks.drop 0)=R):=Lh hR
      clear hR
      go_enter Tryz.func114,Tryz.ntmps114
      go_wp2_with fail
      obtain⟨w1,hw1⟩:∃w1,(w.alloc (.cells #[.int .i64 1,.string (bs nm),.string (bs tx),.slice ba la.length ca,.slice bk ks.length ck] 66))=w1:=⟨_,rfl⟩
      have hE1:Ext w w1:=by rw[←hw1];exact(Ext.refl w).alloc _
      have l0:w.heap.size< w1.heap.size:=by rw[←hw1];simp
      have c4:w1.cell? ⟨w.heap.size,4,none⟩=some (.slice bk ks.length ck):=by rw[←hw1];simp[go_sem]
      rw[hw1]
      clear hw1
      go_loopw [3,4] (fun c t wr=>∃(n i:Nat),c= .int .i64 n∧t= .int .i64 i∧i≤ks.length∧Ext w1 wr∧Hid (n+elemsL (ks.drop i)=R)) (fun _ t _=>downV ks.length t)
      case atStart=>exact⟨1,0,rfl,rfl,Nat.zero_le _,Ext.refl _,HR⟩
      case round=>
        obtain⟨n,i,rfl,rfl,hi,hX,HI⟩:=hrel
        have c4r:=hX.keep l0 c4
        have hi0:=nZ0 i
        have n0:=nZ0 n
        have hnb:n≤1048576:=by have:=HI.out;omega
        have hnI:(n:Int)≤1048576:=by omega
        by_cases hlt:i< ks.length
        · have hlI:(i:Int)< (ks.length:Int):=by omega
          obtain⟨g,o,x1,x2,rfl,hb,_,e0,e1,e2,e3,e4,hr1,hr2⟩:=node_at (hvk.ext (hE1.trans hX)) i hlt
          have hm:=HM.out i hlt
          have hcm:=HCM.out i hlt
          have hS:=elemsL_get ks i hlt
          obtain⟨x,hx⟩:∃x,ks[i]=x:=⟨_,rfl⟩
          rw[hx]at e0 e1 e2 hr1 hr2 hm hcm hS
          have HC:=Lh fun W (hE:Ext wr W)=>IH.out x p x1 x2 W hm hcm (hr1.ext hE) (hr2.ext hE)
          obtain⟨s,hs⟩:∃s,elemsN x=s:=⟨_,rfl⟩
          rw[hs]at HC hS
          have HN:Hid (n+s+elemsL (ks.drop (i+1))=R):=Lh (by rw[←HI.out,hS];omega)
          have sb:s≤1048576:=by have:=HN.out;omega
          have s0:=nZ0 s
          have s1:(s:Int)≤1048576:=by omega
          clear hx hs hS hm hcm HI
          go_wp2_with fail
          refine(HC.out _ (Ext.refl _)).mono ?_
          rintro e w3 ⟨rfl,hB3⟩
          go_wp2_with fail
          go_roundw
          case rel=>exact⟨n+s,i+1,by go_num,by go_num,by omega,hX.trans hB3,HN⟩
          case measure=>exact mZ
        · have hlI:¬(i:Int)< (ks.length:Int):=by omega
          have HN:Hid (n=R):=Lh (by rw[←HI.out,List.drop_of_length_le kA,elemsL];rfl)
          clear HI
          go_wp2_with fail
          go_ret
          exact⟨ret_int (by rw[HN.out]),hE1.trans hX⟩
    · have t1:(k !=1)=true:=by rw[bne_iff_ne];exact h1
      rw[if_pos h1]at hR
      have HN:Hid (0=R):=Lh hR
      clear hR h1
      go_enter Tryz.func114,Tryz.ntmps114
      go_wp2_with fail
      go_ret
      exact⟨ret_int (by rw[←HN.out];rfl),(Ext.refl w).alloc _⟩
def lastAt (s:Step):List Step→Nat→Int→Int
  | [],_,r=>r
  | a::x,i,r=>lastAt s x (i+1) (if stepB a s=true then(i:Int)else r)
def kidAt (l:List Rule) (n:Node) (path:List Bytes) (s:Step):Node:=n.kids.getD (lastAt s (stepsS l path n.kids) 0 (-1)).toNat zeroN
def walkF (l:List Rule):Node→List Bytes→List Step→Nat→Node×Nat
  | n,_,[],i=>(n,i)
  | n,path,s::r,i=>if lastAt s (stepsS l path n.kids) 0 (-1)< 0 then(zeroN,i)else walkF l (kidAt l n path s) (path++ [(kidAt l n path s).name]) r (i+1)
theorem B5.block {W W':World} {b:Nat} {n:Node} {xa xk:Value} (h:B5 W b n xa xk) (hl:W.heap.size≤W'.heap.size) (hb:W'.heap[b]? =W.heap[b]?):B5 W' b n xa xk:=
  ⟨Nat.lt_of_lt_of_le h.lt hl,(World.cell?_of_block hb).trans h.c0,(World.cell?_of_block hb).trans h.c1,(World.cell?_of_block hb).trans h.c2,(World.cell?_of_block hb).trans h.c3,(World.cell?_of_block hb).trans h.c4,
   (World.frozen?_of_block hb).trans h.f0,(World.frozen?_of_block hb).trans h.f1,(World.frozen?_of_block hb).trans h.f2,(World.frozen?_of_block hb).trans h.f3,(World.frozen?_of_block hb).trans h.f4⟩
theorem st5_block (W:World) (b:Nat) (n:Node) (xa xk:Value) {k:Nat} (h:k≠b):(st5 W b n xa xk).heap[k]? =W.heap[k]? :=by
  unfold st5
  rw[Below.heap_setCell _ _ _ _ kJ,Below.heap_setCell _ _ _ _ kJ,Below.heap_setCell _ _ _ _ kJ,Below.heap_setCell _ _ _ _ kJ,Below.heap_setCell _ _ _ _ kJ]
theorem load_node {W:World} {b:Nat} {n:Node} {xa xk:Value} (h:B5 W b n xa xk):(loadVar 66 ⟨b,0,none⟩).run Tryz.prog W= .ok (.agg #[.int .i64 n.kind,.string (bs n.name),.string (bs n.text),xa,xk]) W:=by
  have c0:=h.c0;have c1:=h.c1;have c2:=h.c2;have c3:=h.c3;have c4:=h.c4
  go_simp
def numsD (k:IntKind) (l:List Int):DV:= .s 1 (l.flatMap fun c=> [.v (.int k c)])
theorem z_num (k:IntKind) (x:Int):([.v (.int k x)]:List DV).length=1:=rfl
theorem num_at {w:World} {p:Nat→Prop} {a:Option Addr} {len cap:Nat} {k:IntKind} {l:List Int} (h:Rep w p (.slice a len cap) (numsD k l)) (i:Nat) (hi:i< l.length):
    ∃b off,a=some ⟨b,off,none⟩∧b< w.heap.size∧p b∧w.cell? ⟨b,off+i,none⟩=some (.int k l[i]):=by
  obtain⟨b,off,ha,hb,hp,hc⟩:=elem_at (z_num k) h kA i hi
  obtain⟨u,hu,hr⟩:=hc 0 _ rfl
  rw[Nat.mul_one,Nat.add_zero]at hu
  exact⟨b,off,ha,hb,hp,by rw[hu,hr.is]⟩
def byI (s:Bytes):List Int:=s.map fun c=>(c.toNat:Int)
theorem byI_len (s:Bytes):(byI s).length=s.length:=by simp[byI]
theorem byI_at (s:Bytes) (i:Nat) (h:i< (byI s).length):0≤(byI s)[i]∧(byI s)[i]< 256:=by
  have h1:i< s.length:=by simpa [byI]using h
  have h':(byI s)[i]=((s[i]'h1).toNat:Int):=by simp[byI]
  have:=(s[i]'h1).toNat_lt
  rw[h']
  omega
theorem new_row {w:World} {e:TypeId} {cs:Array Value} {fz:Nat×Nat} {us:List Value} {z cap:Nat} {len:Nat} {es:List DV} (W:World) (hW:W.heap[w.heap.size]? =some (.cells cs e fz)) (hl:es.length=len*z) (hu:us.length=len*z) (hc:len≤cap) (hm:cap≤9223372036854775807)
    (hcs:∀(k:Nat) (u:Value),us[k]? =some u→cs[k]? =some u) (hr:∀(k:Nat) (u:Value) (d:DV),us[k]? =some u→es[k]? =some d→Rep W (fun b=>w.heap.size≤b) u d):
    Rep W (fun b=>w.heap.size≤b) (.slice (some ⟨w.heap.size,0,none⟩) len cap) (.s z es):=
  .row _ 0 len cap z us es (fun _=>Nat.le_refl _) hl hu hc hm (fun k u hk=>by rw[Nat.zero_add];simp[World.cell?,hW,hcs k u hk]) hr
theorem nums_reps (w:World) (p:Nat→Prop) (k:IntKind):∀l:List Int,Reps w p (l.map fun y=>Value.int k y) (l.flatMap fun y=> [.v (.int k y)])
  | []=>Reps.nil _ _
  | y::r=>Reps.cons (Rep.int _ _ _ _) (nums_reps w p k r)
theorem conv_bytes (w:World) (s:Bytes) (h:s.length≤9223372036854775807):∃v W,(convert 9 139 (.string (bs s))).run Tryz.prog w= .ok v W∧Ext w W∧Rep W (fun b=>w.heap.size≤b) v (numsD .u8 (byI s)):=by
  have hsz:(bs s).size=s.length:=bs_size s
  have hl:(bs s).size≤maxLen:=by rw[hsz];unfold maxLen;omega
  have hg:=grownCap_le_maxLen w (bs s).size 0 5 hl
  have hge:=grownCap_ge w (bs s).size 0 5
  refine⟨_,_,run_bytes_of_string w 9 139 5 (bs s) Tryz.underlying9 Tryz.underlying139 Tryz.underlying5,(Ext.refl w).drew.alloc _,?_⟩
  rw[hsz]at hg hge⊢
  unfold maxLen at hg
  refine new_row (us:=(byI s).map fun y=>Value.int .u8 y) (cs:=bytesRow (bs s) (grownCap w s.length 0 5)) (e:=5) _ (Array.getElem?_push_size ..) (by rw[flat_len _ 1 (z_num .u8),byI_len]) (by simp[byI_len]) hge kA (fun k u hk=> ?_) (nums_reps _ _ _ _).2
  unfold bytesRow
  rw[List.getElem?_map]at hk
  have hlt:k< s.length:=by
    rcases Nat.lt_or_ge k s.length with h' | h'
    · exact h'
    · rw[List.getElem?_eq_none (by rw[byI_len];exact h')]at hk;cases hk
  rw[Array.getElem?_append_left (by simp[hsz,hlt])]
  rw[List.getElem?_eq_getElem (by rw[byI_len];exact hlt)]at hk
  simp[byI,bs,hlt]at hk⊢
  exact hk
theorem in_any (r a b:Int) (w:World):Calls Tryz.prog 179 #[.int .i32 r,.int .i32 a,.int .i32 b] w fun e w'=>SomeB (fun _=>True) e∧w'=w:=by
  by_cases h1:a≤r
  · by_cases h2:r≤b
    · go_enter Tryz.func179,Tryz.ntmps179
      go_wp2_with fail
      go_ret
      exact⟨⟨_,rfl,trivial⟩,rfl⟩
    · go_enter Tryz.func179,Tryz.ntmps179
      go_wp2_with fail
      go_ret
      exact⟨⟨_,rfl,trivial⟩,rfl⟩
  · go_enter Tryz.func179,Tryz.ntmps179
    go_wp2_with fail
    go_ret
    exact⟨⟨_,rfl,trivial⟩,rfl⟩
theorem begins_any (r:Int) (w:World):Calls Tryz.prog 145 #[.int .i32 r] w fun e w'=>SomeB (fun _=>True) e∧w'=w:=by
  go_enter Tryz.func145,Tryz.ntmps145
  go_wp2_with fail
  refine(in_any _ _ _ _).mono ?_
  rintro _ _ ⟨⟨b0,rfl,_⟩,rfl⟩
  cases b0 with
  | true=>
    go_wp2_with fail
    go_ret
    exact⟨⟨_,rfl,trivial⟩,rfl⟩
  | false=>
    by_cases h95:r=95
    · subst h95
      go_wp2_with fail
      go_ret
      exact⟨⟨_,rfl,trivial⟩,rfl⟩
    · have e95:(r==95)=false:=by simpa using h95
      go_wp2_with fail
      refine(in_any _ _ _ _).mono ?_
      rintro _ _ ⟨⟨b2,rfl,_⟩,rfl⟩
      cases b2 with
      | true=>
        go_wp2_with fail
        go_ret
        exact⟨⟨_,rfl,trivial⟩,rfl⟩
      | false=>
        go_wp2_with fail
        refine(in_any _ _ _ _).mono ?_
        rintro _ _ ⟨⟨b3,rfl,_⟩,rfl⟩
        cases b3 with
        | true=>
          go_wp2_with fail
          go_ret
          exact⟨⟨_,rfl,trivial⟩,rfl⟩
        | false=>
          go_wp2_with fail
          refine(in_any _ _ _ _).mono ?_
          rintro _ _ ⟨⟨b4,rfl,_⟩,rfl⟩
          cases b4 with
          | true=>
            go_wp2_with fail
            go_ret
            exact⟨⟨_,rfl,trivial⟩,rfl⟩
          | false=>
            go_wp2_with fail
            refine(in_any _ _ _ _).mono ?_
            rintro _ _ ⟨⟨b5,rfl,_⟩,rfl⟩
            cases b5 with
            | true=>
              go_wp2_with fail
              go_ret
              exact⟨⟨_,rfl,trivial⟩,rfl⟩
            | false=>
              go_wp2_with fail
              refine(in_any _ _ _ _).mono ?_
              rintro _ _ ⟨⟨b6,rfl,_⟩,rfl⟩
              cases b6 with
              | true=>
                go_wp2_with fail
                go_ret
                exact⟨⟨_,rfl,trivial⟩,rfl⟩
              | false=>
                go_wp2_with fail
                refine(in_any _ _ _ _).mono ?_
                rintro _ _ ⟨⟨b7,rfl,_⟩,rfl⟩
                cases b7 with
                | true=>
                  go_wp2_with fail
                  go_ret
                  exact⟨⟨_,rfl,trivial⟩,rfl⟩
                | false=>
                  go_wp2_with fail
                  refine(in_any _ _ _ _).mono ?_
                  rintro _ _ ⟨⟨b8,rfl,_⟩,rfl⟩
                  cases b8 with
                  | true=>
                    go_wp2_with fail
                    go_ret
                    exact⟨⟨_,rfl,trivial⟩,rfl⟩
                  | false=>
                    go_wp2_with fail
                    refine(in_any _ _ _ _).mono ?_
                    rintro _ _ ⟨⟨b9,rfl,_⟩,rfl⟩
                    cases b9 with
                    | true=>
                      go_wp2_with fail
                      go_ret
                      exact⟨⟨_,rfl,trivial⟩,rfl⟩
                    | false=>
                      go_wp2_with fail
                      refine(in_any _ _ _ _).mono ?_
                      rintro _ _ ⟨⟨b10,rfl,_⟩,rfl⟩
                      cases b10 with
                      | true=>
                        go_wp2_with fail
                        go_ret
                        exact⟨⟨_,rfl,trivial⟩,rfl⟩
                      | false=>
                        go_wp2_with fail
                        refine(in_any _ _ _ _).mono ?_
                        rintro _ _ ⟨⟨b11,rfl,_⟩,rfl⟩
                        cases b11 with
                        | true=>
                          go_wp2_with fail
                          go_ret
                          exact⟨⟨_,rfl,trivial⟩,rfl⟩
                        | false=>
                          go_wp2_with fail
                          refine(in_any _ _ _ _).mono ?_
                          rintro _ _ ⟨⟨b12,rfl,_⟩,rfl⟩
                          cases b12 with
                          | true=>
                            go_wp2_with fail
                            go_ret
                            exact⟨⟨_,rfl,trivial⟩,rfl⟩
                          | false=>
                            go_wp2_with fail
                            refine(in_any _ _ _ _).mono ?_
                            rintro _ _ ⟨⟨b13,rfl,_⟩,rfl⟩
                            cases b13 with
                            | true=>
                              go_wp2_with fail
                              go_ret
                              exact⟨⟨_,rfl,trivial⟩,rfl⟩
                            | false=>
                              go_wp2_with fail
                              refine(in_any _ _ _ _).mono ?_
                              rintro _ _ ⟨⟨b14,rfl,_⟩,rfl⟩
                              go_wp2_with fail
                              go_ret
                              exact⟨⟨_,rfl,trivial⟩,rfl⟩
theorem goeson_any (r:Int) (w:World):Calls Tryz.prog 146 #[.int .i32 r] w fun e w'=>SomeB (fun _=>True) e∧w'=w:=by
  go_enter Tryz.func146,Tryz.ntmps146
  go_wp2_with fail
  refine(begins_any _ _).mono ?_
  rintro _ _ ⟨⟨b1,rfl,_⟩,rfl⟩
  cases b1 with
  | true=>
    go_wp2_with fail
    go_ret
    exact⟨⟨_,rfl,trivial⟩,rfl⟩
  | false=>
    by_cases h45:r=45
    · subst h45
      go_wp2_with fail
      go_ret
      exact⟨⟨_,rfl,trivial⟩,rfl⟩
    · have e45:(r==45)=false:=by simpa using h45
      by_cases h46:r=46
      · subst h46
        go_wp2_with fail
        go_ret
        exact⟨⟨_,rfl,trivial⟩,rfl⟩
      · have e46:(r==46)=false:=by simpa using h46
        go_wp2_with fail
        refine(in_any _ _ _ _).mono ?_
        rintro _ _ ⟨⟨b4,rfl,_⟩,rfl⟩
        cases b4 with
        | true=>
          go_wp2_with fail
          go_ret
          exact⟨⟨_,rfl,trivial⟩,rfl⟩
        | false=>
          by_cases h183:r=183
          · subst h183
            go_wp2_with fail
            go_ret
            exact⟨⟨_,rfl,trivial⟩,rfl⟩
          · have e183:(r==183)=false:=by simpa using h183
            go_wp2_with fail
            refine(in_any _ _ _ _).mono ?_
            rintro _ _ ⟨⟨b6,rfl,_⟩,rfl⟩
            cases b6 with
            | true=>
              go_wp2_with fail
              go_ret
              exact⟨⟨_,rfl,trivial⟩,rfl⟩
            | false=>
              by_cases h8255:r=8255
              · subst h8255
                go_wp2_with fail
                go_ret
                exact⟨⟨_,rfl,trivial⟩,rfl⟩
              · have e8255:(r==8255)=false:=by simpa using h8255
                go_wp2_with fail
                go_ret
                exact⟨⟨_,rfl,trivial⟩,rfl⟩
theorem char_any (r:Int) (w:World):Calls Tryz.prog 181 #[.int .i32 r] w fun e w'=>SomeB (fun _=>True) e∧w'=w:=by
  by_cases h9:r=9
  · subst h9;go_enter Tryz.func181,Tryz.ntmps181;go_wp2_with fail;go_ret;exact⟨⟨_,rfl,trivial⟩,rfl⟩
  · by_cases h10:r=10
    · subst h10;go_enter Tryz.func181,Tryz.ntmps181;go_wp2_with fail;go_ret;exact⟨⟨_,rfl,trivial⟩,rfl⟩
    · by_cases h13:r=13
      · subst h13;go_enter Tryz.func181,Tryz.ntmps181;go_wp2_with fail;go_ret;exact⟨⟨_,rfl,trivial⟩,rfl⟩
      · have e9:(r==9)=false:=by simpa using h9
        have e10:(r==10)=false:=by simpa using h10
        have e13:(r==13)=false:=by simpa using h13
        by_cases a1:32≤r<;> by_cases a2:r≤55295<;> by_cases a3:57344≤r<;> by_cases a4:r≤65533<;> by_cases a5:65536≤r<;> by_cases a6:r≤1114111<;> first
          | omega
          | (go_enter Tryz.func181,Tryz.ntmps181;go_wp2_with fail;go_ret;exact⟨⟨_,rfl,trivial⟩,rfl⟩)
def RetNums (k:IntKind) (m:Nat) (p:Nat→Prop) (e:Ending) (w':World):Prop:=∃L:List Int,L.length≤m∧Ret p (numsD k L) e w'
theorem retNums_nil (k:IntKind) (m:Nat) (p:Nat→Prop) (w:World):RetNums k m p (.returned (.slice none 0 0)) w:=⟨[],by simp,_,rfl,.nil 1⟩
theorem retNums_new (k:IntKind) (w:World) (e:TypeId) (l:List Int) (cs:Array Value) (hcs:cs=(l.map fun y=>Value.int k y).toArray) (n:Nat) (hn:n=l.length) (hl:l.length≤4):RetNums k 4 (fun b=>w.heap.size≤b) (.returned (.slice (some ⟨w.heap.size,0,none⟩) n n)) (w.alloc (.cells cs e)):=by
  subst hcs hn
  refine⟨l,hl,_,rfl,new_row (us:=l.map fun y=>Value.int k y) (cs:=(l.map fun y=>Value.int k y).toArray) (e:=e) _ (Array.getElem?_push_size ..) (by rw[flat_len _ 1 (z_num k)]) kI (Nat.le_refl _) kA (fun j u hj=>by simpa using hj) (nums_reps _ _ _ _).2⟩
end Go.Proofs.YtngmgjodcnknoaaGreatDoor
