/-
  Laws drawn from elder texts. Helper lemmas;no statement of the seat is proved here.
-/
import Derived.Test.YtcfibjiikhnfhaaGreatDoorU1
import Derived.BigQuiet
import Derived.Deep.QuietTactic
import Derived.Deep.WholeRow
import Derived.IntWalk
import Derived.Laws.AppendOwnNone
import Derived.Laws.Cover3
import Derived.Laws.IdiomStrings
import Derived.Laws.OwnMore
import Derived.Laws.Rows
import Derived.Laws.StructEq
import Derived.Laws.Tables
import Derived.Lib.AppendStr
import Derived.Lib.AppendZeros
import Derived.Lib.SlTrimSet
import Derived.LoopTactic
namespace Go.Proofs.YtcfibjiikhnfhaaGreatDoor
open Go.RowKit
set_option maxHeartbeats 32000000
set_option maxRecDepth 100000
set_option linter.unusedVariables false
set_option linter.unusedSimpArgs false
deriving instance DecidableEq for Attr
def Dr (w w':World):Prop:=∃m,w'=w.drewN m
theorem Dr.refl (w:World):Dr w w:=⟨0,rfl⟩
theorem Dr.ext {w w':World} (h:Dr w w'):Ext w w':=by obtain⟨m,rfl⟩:=h;exact(Ext.refl w).drewN m
theorem Dr.drewN {w w':World} (h:Dr w w') (n:Nat):Dr w (w'.drewN n):=by obtain⟨m,rfl⟩:=h;exact⟨m+n,by rw[World.drewN_drewN]⟩
def downV (N:Nat):Value→Nat
  | .int _ k=>(N - k).toNat
  | _=>0
theorem drop_one {α:Type} (l:List α) (i:Nat) (h:i< l.length):l.drop i=l[i]::l.drop (i+1):=List.drop_eq_getElem_cons h
theorem eq_two {P:Program} {t t1 t2:TypeId} {x1 x2 y1 y2:Value} {b1 b2:Bool} (s:P.stoodInHeld t=false) (u:P.underlying t=some (.struct (P.fieldsOf t)))
    (f1 f2 : Field) (hf : (P.fieldsOf t).toList = [f1, f2]) (n1 : (f1.name == "_") = false) (n2 : (f2.name == "_") = false) (e1 : f1.type = t1) (e2 : f2.type = t2) (o1 : f1.offset = 0) (o2 : f2.offset = 1)
    (p1:∀a b w,(part t1 #[a,b] 0).run P w= .ok a w) (p2:∀a b w,(part t2 #[a,b] 1).run P w= .ok b w)
    (q1:∀w,(Op.equalIn 9999 t1 x1 y1).run P w= .ok b1 w) (q2:∀w,(Op.equalIn 9999 t2 x2 y2).run P w= .ok b2 w) (w:World):
    (Op.equalIn 10000 t (.agg #[x1,x2]) (.agg #[y1,y2])).run P w= .ok (b1 && b2) w:=by
  have m1 : f1.name ≠ "_" := by simpa using n1
  have m2 : f2.name ≠ "_" := by simpa using n2
  rw[run_equalIn_agg w 9999 t _ _ u s,hf]
  simp only[Op.eqFields,if_pos m1,if_pos m2,e1,e2,o1,o2,Sem.run_bind,p1,p2,Result.andThen_ok,q1,q2]
  cases b1<;> cases b2<;> simp[q2,p2]
theorem neq_attr (a b c d:ByteArray) (w:World):(binOp .neq 114 (.agg #[.string a,.string b]) (.agg #[.string c,.string d])).run Tryz.prog w= .ok (.bool (!((a.toList==c.toList) && (b.toList==d.toList)))) w:=by
  rw[run_neq_struct,eq_two (b1:=(a.toList==c.toList)) (b2:=(b.toList==d.toList)) (by kernel_rfl) (by kernel_rfl) (Tryz.prog.fieldsOf 114)[0]! (Tryz.prog.fieldsOf 114)[1]! (by kernel_rfl) (by kernel_rfl) (by kernel_rfl) (t1:=9) (t2:=9) (by kernel_rfl) (by kernel_rfl) (by kernel_rfl) (by kernel_rfl) (fun _ _ _=>by kernel_rfl) (fun _ _ _=>by kernel_rfl) (fun w=>run_equalIn_string w _ _ _ _ Tryz.underlying9) (fun w=>run_equalIn_string w _ _ _ _ Tryz.underlying9)]
  rfl
theorem grd_attr (x y:Operand) (a b c d:Value) (w:World):(eqGuard .neq 114 x y (.agg #[a,b]) (.agg #[c,d])).run Tryz.prog w= .ok () w:=run_eqGuard_agg w _ _ _ _ _ _ (by kernel_rfl)
theorem attr_eqE (s:Attr) (w:World):(binOp .neq 114 (.agg #[.string (bs s.n),.string (bs s.v)]) (.agg #[.string (bs s.n),.string (bs s.v)])).run Tryz.prog w= .ok (.bool false) w:=by rw[neq_attr];simp
theorem attr_eqN (s t:Attr) (h:¬s=t) (w:World):(binOp .neq 114 (.agg #[.string (bs s.n),.string (bs s.v)]) (.agg #[.string (bs t.n),.string (bs t.v)])).run Tryz.prog w= .ok (.bool true) w:=by
  rw[neq_attr,bs_eqv,bs_eqv]
  have:((s.n==t.n) && (s.v==t.v))=false:=by
    rw[Bool.eq_false_iff];intro e
    simp only[Bool.and_eq_true,beq_iff_eq]at e
    apply h;cases s;cases t;simp_all
  rw[this];rfl
def textsS:List Bytes→List Bytes→Bool
  | [],[]=>true
  | a::x,b::y=>if a=b then textsS x y else false
  | _,_=>false
theorem textsS_ne:∀x y:List Bytes,x.length≠y.length→textsS x y=false
  | [],[],h=>absurd rfl h
  | [],_::_,_=>rfl
  | _::_,[],_=>rfl
  | a::x,b::y,h=>by
    unfold textsS
    split
    · exact textsS_ne x y (by simpa using h)
    · rfl
theorem textsS_iff:∀x y:List Bytes,textsS x y=true↔x=y
  | [],[]=>by simp[textsS]
  | [],_::_=>by simp[textsS]
  | _::_,[]=>by simp[textsS]
  | a::x,b::y=>by
    unfold textsS
    split
    · rename_i h;rw[textsS_iff x y,h];simp
    · rename_i h;simp[h]
def attrsS:List Attr→List Attr→Bool
  | [],[]=>true
  | a::x,b::y=>if a=b then attrsS x y else false
  | _,_=>false
theorem attrsS_ne:∀x y:List Attr,x.length≠y.length→attrsS x y=false
  | [],[],h=>absurd rfl h
  | [],_::_,_=>rfl
  | _::_,[],_=>rfl
  | a::x,b::y,h=>by
    unfold attrsS
    split
    · exact attrsS_ne x y (by simpa using h)
    · rfl
theorem attrs_q (p q:Nat→Prop) (x y:List Attr) (v u:Value) (w:World) (h:Rep w p v (attrsD x)) (k:Rep w q u (attrsD y)):
    Calls Tryz.prog 24 #[v,u] w fun e w'=>e= .returned (.bool (attrsS x y))∧Dr w w':=by
  obtain⟨a,c,rfl,hc1,hc2⟩:=h.count z_attr (by omega)
  obtain⟨b,d,rfl,hd1,hd2⟩:=k.count z_attr (by omega)
  obtain⟨R,hR⟩:∃R,attrsS x y=R:=⟨_,rfl⟩
  rw[hR]
  have HR:=Lh hR
  by_cases hl:x.length=y.length
  · have hl1:((x.length:Int) !=(y.length:Int))=false:=by rw[hl];exact bne_self_eq_false _
    have HL:=Lh hl
    clear hR hl
    go_enter Tryz.func24,Tryz.ntmps24
    go_wp2_with fail
    go_loopw [5] (fun t wr=>∃i:Nat,t= .int .i64 i∧i≤x.length∧Dr w wr∧Hid (attrsS (x.drop i) (y.drop i)=R)) (fun t _=>downV x.length t)
    case atStart=>exact⟨0,rfl,Nat.zero_le _,Dr.refl _,HR⟩
    case round=>
      obtain⟨i,rfl,hi,hX,HI⟩:=hrel
      by_cases hlt:i< x.length
      · have hlI:(i:Int)< (x.length:Int):=by omega
        have hi0:(0:Int)≤(i:Int):=by omega
        have hly:i< y.length:=by have:=HL.out;omega
        have hyI:(i:Int)< (y.length:Int):=by omega
        obtain⟨g1,o1,rfl,hb1,hp1,hc1,hd1⟩:=attr_at (h.ext hX.ext) i hlt
        obtain⟨g2,o2,rfl,hb2,hp2,hc2,hd2⟩:=attr_at (k.ext hX.ext) i hly
        have HS:Hid (attrsS (x.drop i) (y.drop i)=if x[i]=y[i]then attrsS (x.drop (i+1)) (y.drop (i+1))else false):=Lh (by rw[drop_one x i hlt,drop_one y i hly];rfl)
        obtain⟨s,hs⟩:∃s,x[i]=s:=⟨_,rfl⟩
        obtain⟨t,ht⟩:∃t,y[i]=t:=⟨_,rfl⟩
        rw[hs]at hc1 hd1 HS
        rw[ht]at hc2 hd2 HS
        have HX:=Lh hX
        clear hs ht hX
        by_cases he:s=t
        · subst he
          have HN:Hid (attrsS (x.drop (i+1)) (y.drop (i+1))=R):=Lh (by have:=HS.out;rw[if_pos rfl]at this;rw[←this];exact HI.out)
          have hq:=attr_eqE s
          have hg:=grd_attr
          clear HS HI
          go_wp2_with fail
          go_quiet (fail)
          go_wp2_with fail
          go_roundw
          case rel=>exact⟨i+1,by go_num,by omega,HX.out.drewN _,HN⟩
          case measure=>simp only[downV];omega
        · have HN:Hid (false=R):=Lh (by have:=HS.out;rw[if_neg he]at this;rw[←this];exact HI.out)
          have hq:=attr_eqN s t he
          have hg:=grd_attr
          clear HS HI he
          go_wp2_with fail
          go_quiet (fail)
          go_wp2_with fail
          go_ret
          exact⟨ret_bool HN.out,HX.out.drewN _⟩
      · have hlI:¬(i:Int)< (x.length:Int):=by omega
        have HN:Hid (true=R):=Lh (by
          have:=HI.out
          rw[List.drop_of_length_le (by omega),List.drop_of_length_le (by have:=HL.out;omega)]at this
          exact this)
        clear HI
        go_wp2_with fail
        go_ret
        exact⟨ret_bool HN.out,hX⟩
  · have hl1:((x.length:Int) !=(y.length:Int))=true:=by rw[bne_iff_ne];omega
    have HN:Hid (false=R):=Lh (by rw[←hR,attrsS_ne x y hl])
    clear hR hl HR
    go_enter Tryz.func24,Tryz.ntmps24
    go_wp2_with fail
    go_ret
    exact⟨ret_bool HN.out,Dr.refl _⟩
theorem attrs_any (p q:Nat→Prop) (x y:List Attr) (v u:Value) (w:World) (h:Rep w p v (attrsD x)) (k:Rep w q u (attrsD y)):
    Calls Tryz.prog 24 #[v,u] w fun e w'=>e= .returned (.bool (attrsS x y))∧Ext w w':=
  (attrs_q p q x y v u w h k).mono fun _ _ ⟨he,hd⟩=>⟨he,hd.ext⟩
theorem Rep.take {w:World} {p:Nat→Prop} {b off len cap z:Nat} {es:List DV} (h:Rep w p (.slice (some ⟨b,off,none⟩) len cap) (.s z es)) (n:Nat) (hn:n≤len):Rep w p (.slice (some ⟨b,off,none⟩) n cap) (.s z (es.take (n*z))):=by
  obtain⟨_,_,_,e,_,hc,hm,_⟩:=h.slice
  cases e
  have:=h.sub 0 n cap (Nat.zero_le _) hn (by omega) hm
  rw[Nat.zero_mul,Nat.add_zero,List.drop_zero,Nat.sub_zero]at this
  exact this
theorem flat_take {α:Type} (f:α→List DV) (z:Nat) (hz:∀x,(f x).length=z):∀(l:List α) (n:Nat),(l.flatMap f).take (n*z)=(l.take n).flatMap f
  | [],n=>by simp
  | x::r,0=>by simp
  | x::r,n+1=>by rw[List.take_succ_cons,List.flatMap_cons,List.flatMap_cons,List.take_append,hz,List.take_of_length_le (by rw[hz,Nat.add_mul];omega),show(n+1)*z - z=n*z by rw[Nat.add_mul];omega,flat_take f z hz r n]
def lessB:Bytes→Bytes→Bool
  | [],[]=>false
  | [],_::_=>true
  | _::_,[]=>false
  | a::x,b::y=>if a=b then lessB x y else decide (a.toNat< b.toNat)
def stepB (x y:Step):Bool:=if x.n=y.n then textsS x.key y.key else false
theorem stepB_iff (x y:Step):stepB x y=true↔x=y:=by
  unfold stepB
  split
  · rename_i h;rw[textsS_iff];cases x;cases y;simp_all
  · rename_i h;cases x;cases y;simp_all
def findS (path:List Bytes):List Rule→Nat→Int
  | [],_=> -1
  | r::l,i=>if textsS r.path path=true then(i:Int)else findS path l (i+1)
def aboveS (path:List Bytes) (l:List Rule):Bool:=l.any fun r=>decide (path.length< r.path.length) && textsS (r.path.take path.length) path
def frontS (l:List Rule) (path:List Bytes):Bool:= !aboveS path l && decide (0≤findS path l 0)
theorem above_step (path:List Bytes) (r:Rule) (l:List Rule):aboveS path (r::l)=((decide (path.length< r.path.length) && textsS (r.path.take path.length) path) || aboveS path l):=by unfold aboveS;rw[List.any_cons]
def lessK:List Bytes→List Bytes→Bool
  | [],[]=>false
  | [],_::_=>true
  | _::_,[]=>false
  | a::x,b::y=>if a=b then lessK x y else lessB a b
def aheadB (x y:Step):Bool:=if x.n=y.n then lessK x.key y.key else lessB x.n y.n
mutual
def sameN:Node→Node→Bool
  | .mk k n t la ks,.mk k' n' t' la' ks'=>decide (k=k') && decide (n=n') && decide (t=t') && attrsS la la' && sameL ks ks'
def sameL:List Node→List Node→Bool
  | [],[]=>true
  | a::x,b::y=>sameN a b && sameL x y
  | _,_=>false
end
theorem sameL_ne:∀x y:List Node,x.length≠y.length→sameL x y=false
  | [],[],h=>absurd rfl h
  | [],_::_,_=>by rw[sameL];all_goals simp
  | _::_,[],_=>by rw[sameL];all_goals simp
  | a::x,b::y,h=>by rw[sameL,sameL_ne x y (by simpa using h),Bool.and_false]
mutual
def nsz:Node→Nat
  | .mk _ _ _ _ ks=>1+nszL ks
def nszL:List Node→Nat
  | []=>0
  | n::r=>nsz n+nszL r
end
theorem nszL_get:∀(l:List Node) (i:Nat) (h:i< l.length),nsz l[i]≤nszL l
  | [],i,h=>absurd h (Nat.not_lt_zero _)
  | n::r,0,h=>by rw[nszL];exact Nat.le_add_right _ _
  | n::r,i+1,h=>by
    have:=nszL_get r i (by simpa using h)
    rw[nszL];simp only[List.getElem_cons_succ];omega
theorem kid_lt (n:Node) (i:Nat) (h:i< n.kids.length):nsz n.kids[i]< nsz n:=by
  cases n with
  | mk k nm t la ks=>
    have:=nszL_get ks i h
    show nsz ks[i]< _
    rw[nsz];omega
theorem same_any:∀(m:Nat) (a b:Node) (p q:Nat→Prop) (va vk ua uk:Value) (w:World),nsz a≤m→Rep w p va (attrsD a.attrs)→Rep w p vk (nodesD a.kids)→Rep w q ua (attrsD b.attrs)→Rep w q uk (nodesD b.kids)→
    Calls Tryz.prog 9 #[.agg #[.int .i64 a.kind,.string (bs a.name),.string (bs a.text),va,vk],.agg #[.int .i64 b.kind,.string (bs b.name),.string (bs b.text),ua,uk]] w fun e w'=>e= .returned (.bool (sameN a b))∧Ext w w':=by
  intro m
  induction m with
  | zero=>intro a b p q va vk ua uk w hm;cases a;rw[nsz]at hm;omega
  | succ m ih=>
    intro a b p q va vk ua uk w hm hva hvk hua huk
    have hkid:=fun i h=>kid_lt a i h
    obtain⟨k,nm,tx,la,ks⟩:=a
    obtain⟨k',nm',tx',la',ks'⟩:=b
    simp only[Node.kind,Node.name,Node.text,Node.attrs,Node.kids]at*
    obtain⟨ba,ca,rfl,_,_⟩:=hva.count z_attr (by omega)
    obtain⟨bk,c,rfl,hc1,hc2⟩:=hvk.count z_node (by omega)
    obtain⟨da,ea,rfl,_,_⟩:=hua.count z_attr (by omega)
    obtain⟨dk,d,rfl,hd1,hd2⟩:=huk.count z_node (by omega)
    obtain⟨R,hR⟩:∃R,sameN (.mk k nm tx la ks) (.mk k' nm' tx' la' ks')=R:=⟨_,rfl⟩
    rw[hR]
    rw[sameN]at hR
    have HM:Hid (∀(i:Nat) (h:i< ks.length),nsz ks[i]≤m):=Lh (fun i h=>by have:=hkid i h;omega)
    clear hkid hm
    have IH:=Lh ih
    clear ih
    have HAT:=Lh fun W (hE:Ext w W)=>attrs_any p q la la' _ _ W (hva.ext hE) (hua.ext hE)
    by_cases h1:k=k'
    · subst h1
      have f1:(k !=k)=false:=bne_self_eq_false _
      by_cases h2:nm=nm'
      · subst h2
        by_cases h3:tx=tx'
        · subst h3
          cases h4:attrsS la la' with
          | false=>
            rw[h4]at HAT
            have HN:Hid (false=R):=Lh (by rw[←hR,h4];simp)
            clear hR h4
            go_enter Tryz.func9,Tryz.ntmps9
            go_wp2_with fail
            refine(HAT.out _ (((Ext.refl w).alloc _).alloc _)).mono ?_
            rintro e w1 ⟨rfl,hB1⟩
            go_wp2_with fail
            go_ret
            exact⟨ret_bool HN.out,(((Ext.refl w).alloc _).alloc _).trans hB1⟩
          | true=>
            rw[h4]at HAT
            by_cases h5:ks.length=ks'.length
            · have f5:((ks.length:Int) !=(ks'.length:Int))=false:=by rw[h5];exact bne_self_eq_false _
              have HL:=Lh h5
              have HR:Hid (sameL ks ks'=R):=Lh (by rw[←hR,h4];simp)
              clear hR h4 h5
              go_enter Tryz.func9,Tryz.ntmps9
              go_wp2_with fail
              refine(HAT.out _ (((Ext.refl w).alloc _).alloc _)).mono ?_
              rintro e w1 ⟨rfl,hB1⟩
              have hZ1:=hB1.size
              simp at hZ1
              have l0:w.heap.size< w1.heap.size:=by omega
              have l1:w.heap.size+1< w1.heap.size:=by omega
              have c4:w1.cell? ⟨w.heap.size,4,none⟩=some (.slice bk ks.length c):=hB1.keep (by simp;omega) (by simp[go_sem])
              have d4:w1.cell? ⟨w.heap.size+1,4,none⟩=some (.slice dk ks'.length d):=hB1.keep (by simp) (by simp[go_sem])
              have hE1:Ext w w1:=(((Ext.refl w).alloc _).alloc _).trans hB1
              clear hB1 hZ1 HAT
              go_wp2_with fail
              go_loopw [5] (fun t wr=>∃i:Nat,t= .int .i64 i∧i≤ks.length∧Ext w1 wr∧Hid (sameL (ks.drop i) (ks'.drop i)=R)) (fun t _=>downV ks.length t)
              case atStart=>exact⟨0,rfl,Nat.zero_le _,Ext.refl _,HR⟩
              case round=>
                obtain⟨i,rfl,hi,hX,HI⟩:=hrel
                have c4r:=hX.keep l0 c4
                have d4r:=hX.keep l1 d4
                have hXz:=hX.size
                by_cases hlt:i< ks.length
                · have hlI:(i:Int)< (ks.length:Int):=by omega
                  have hi0:(0:Int)≤(i:Int):=by omega
                  have hly:i< ks'.length:=by have:=HL.out;omega
                  have hyI:(i:Int)< (ks'.length:Int):=by omega
                  have hEr:=hE1.trans hX
                  obtain⟨g1,o1,va1,vk1,rfl,lb1,_,e10,e11,e12,e13,e14,hra1,hrk1⟩:=node_at (hvk.ext hEr) i hlt
                  obtain⟨g2,o2,va2,vk2,rfl,lb2,_,e20,e21,e22,e23,e24,hra2,hrk2⟩:=node_at (huk.ext hEr) i hly
                  have HS:Hid (sameL (ks.drop i) (ks'.drop i)=(sameN ks[i] ks'[i] && sameL (ks.drop (i+1)) (ks'.drop (i+1)))):=Lh (by rw[drop_one ks i hlt,drop_one ks' i hly,sameL])
                  have hmi:=HM.out i hlt
                  obtain⟨x,hx⟩:∃x,ks[i]=x:=⟨_,rfl⟩
                  obtain⟨y,hy⟩:∃y,ks'[i]=y:=⟨_,rfl⟩
                  rw[hx]at e10 e11 e12 hra1 hrk1 HS hmi
                  rw[hy]at e20 e21 e22 hra2 hrk2 HS
                  obtain⟨B,hB⟩:∃B,sameN x y=B:=⟨_,rfl⟩
                  have HC:=Lh fun W (hE:Ext wr W)=>IH.out x y p q va1 vk1 va2 vk2 W hmi (hra1.ext hE) (hrk1.ext hE) (hra2.ext hE) (hrk2.ext hE)
                  rw[hB]at HC HS
                  have m0:w.heap.size< wr.heap.size:=by omega
                  have m1:w.heap.size+1< wr.heap.size:=by omega
                  obtain⟨wz,hwz⟩:∃wz,wz=wr:=⟨_,rfl⟩
                  subst hwz
                  clear hx hy hB hmi hra1 hra2 hrk1 hrk2
                  go_wp2_with fail
                  refine rg_begin (S:=Sx wz) (by kernel_rfl) (Sx.begin _) ?_
                  have hS:Sx wz (World.drew wz):=(Sx.begin _)
                  refine rg_t 0 (some 49) (.pointer (some ⟨w.heap.size,4,none⟩)) rfl hS (fun w' hs=>by first | rfl | go_simp) ?_
                  simp only[Act.put,sA,sZ,sS]
                  refine rg_t 1 (some 50) (.slice (some ⟨g1,o1,none⟩) ks.length c) rfl hS (fun w' hs=>by(have h0:=hs.cell m0 c4r;go_simp)) ?_
                  simp only[Act.put,sA,sZ,sS]
                  refine rg_t 2 (some 51) (.int .i64 i) rfl hS (fun w' hs=>by rfl) ?_
                  simp only[Act.put,sA,sZ,sS]
                  refine rg_t 3 (some 52) (.pointer (some ⟨g1,o1+i*5,none⟩)) rfl hS (fun w' hs=>by first | rfl | go_simp) ?_
                  simp only[Act.put,sA,sZ,sS]
                  refine rg_t 4 (some 53) (.agg #[.int .i64 x.kind,.string (bs x.name),.string (bs x.text),va1,vk1]) rfl hS (fun w' hs=>by(have h0:=hs.cell lb1 e10;have h1:=hs.cell lb1 e11;have h2:=hs.cell lb1 e12;have h3:=hs.cell lb1 e13;have h4:=hs.cell lb1 e14;go_simp)) ?_
                  simp only[Act.put,sA,sZ,sS]
                  refine rg_t 5 (some 54) (.pointer (some ⟨w.heap.size+1,4,none⟩)) rfl hS (fun w' hs=>by first | rfl | go_simp) ?_
                  simp only[Act.put,sA,sZ,sS]
                  refine rg_t 6 (some 55) (.slice (some ⟨g2,o2,none⟩) ks'.length d) rfl hS (fun w' hs=>by(have h0:=hs.cell m1 d4r;go_simp)) ?_
                  simp only[Act.put,sA,sZ,sS]
                  refine rg_t 7 (some 56) (.int .i64 i) rfl hS (fun w' hs=>by rfl) ?_
                  simp only[Act.put,sA,sZ,sS]
                  refine rg_t 8 (some 57) (.pointer (some ⟨g2,o2+i*5,none⟩)) rfl hS (fun w' hs=>by first | rfl | go_simp) ?_
                  simp only[Act.put,sA,sZ,sS]
                  refine rg_t 9 (some 58) (.agg #[.int .i64 y.kind,.string (bs y.name),.string (bs y.text),va2,vk2]) rfl hS (fun w' hs=>by(have h0:=hs.cell lb2 e20;have h1:=hs.cell lb2 e21;have h2:=hs.cell lb2 e22;have h3:=hs.cell lb2 e23;have h4:=hs.cell lb2 e24;go_simp)) ?_
                  simp only[Act.put,sA,sZ,sS]
                  refine rg_call 10 (some 59) 9 #[.agg #[.int .i64 x.kind,.string (bs x.name),.string (bs x.text),va1,vk1],.agg #[.int .i64 y.kind,.string (bs y.name),.string (bs y.text),va2,vk2]] rfl rfl (by kernel_rfl) (by rfl) (fun w'=>by first | rfl | go_simp) (R:=fun v w'=>v= .bool B∧Ext (World.drew wz) w') ?_ ?_
                  · refine(HC.out (World.drew wz) hS).mono ?_
                    rintro e w' ⟨rfl,h⟩
                    exact⟨_,rfl,rfl,h⟩
                  rintro _ wr1 ⟨rfl,hBr1⟩
                  have hS1:=hS.ext hBr1
                  refine⟨hS1,?_⟩
                  simp only[Act.put,sA,sZ,sS]
                  refine rg_t 11 (some 60) (.bool (!B)) rfl hS1 (fun w' hs=>by first | rfl | go_simp) ?_
                  simp only[Act.put,sA,sZ,sS]
                  refine rg_done (by kernel_rfl) ?_
                  cases B with
                  | true=>
                    have HN:Hid (sameL (ks.drop (i+1)) (ks'.drop (i+1))=R):=Lh (by rw[←HI.out,HS.out];rfl)
                    clear HS HI
                    go_wp2_with fail
                    go_roundw
                    case rel=>exact⟨i+1,by go_num,by omega,hX.trans hS1,HN⟩
                    case measure=>simp only[downV];omega
                  | false=>
                    have HN:Hid (false=R):=Lh (by rw[←HI.out,HS.out];rfl)
                    clear HS HI
                    go_wp2_with fail
                    go_ret
                    exact⟨ret_bool HN.out,hEr.trans hS1⟩
                · have hlI:¬(i:Int)< (ks.length:Int):=by omega
                  have HN:Hid (true=R):=Lh (by
                    have:=HI.out
                    rw[List.drop_of_length_le (by omega),List.drop_of_length_le (by have:=HL.out;omega)]at this
                    exact this)
                  clear HI
                  go_wp2_with fail
                  go_ret
                  exact⟨ret_bool HN.out,hE1.trans hX⟩
            · have f5:((ks.length:Int) !=(ks'.length:Int))=true:=by rw[bne_iff_ne];omega
              have HN:Hid (false=R):=Lh (by rw[←hR,sameL_ne ks ks' h5];simp)
              clear hR h4 h5
              go_enter Tryz.func9,Tryz.ntmps9
              go_wp2_with fail
              refine(HAT.out _ (((Ext.refl w).alloc _).alloc _)).mono ?_
              rintro e w1 ⟨rfl,hB1⟩
              have hZ1:=hB1.size
              simp at hZ1
              have l0:w.heap.size< w1.heap.size:=by omega
              have l1:w.heap.size+1< w1.heap.size:=by omega
              have c4:w1.cell? ⟨w.heap.size,4,none⟩=some (.slice bk ks.length c):=hB1.keep (by simp;omega) (by simp[go_sem])
              have d4:w1.cell? ⟨w.heap.size+1,4,none⟩=some (.slice dk ks'.length d):=hB1.keep (by simp) (by simp[go_sem])
              have hE1:Ext w w1:=(((Ext.refl w).alloc _).alloc _).trans hB1
              clear hB1 hZ1 HAT
              go_wp2_with fail
              go_ret
              exact⟨ret_bool HN.out,hE1⟩
        · have f3:((bs tx).toList==(bs tx').toList)=false:=by rw[bs_toList,bs_toList,beq_eq_false_iff_ne];exact h3
          have HN:Hid (false=R):=Lh (by rw[←hR,decide_eq_false h3];simp)
          clear hR h3
          go_enter Tryz.func9,Tryz.ntmps9
          go_wp2_with fail
          go_ret
          exact⟨ret_bool HN.out,((Ext.refl w).alloc _).alloc _⟩
      · have f2:((bs nm).toList==(bs nm').toList)=false:=by rw[bs_toList,bs_toList,beq_eq_false_iff_ne];exact h2
        have HN:Hid (false=R):=Lh (by rw[←hR,decide_eq_false h2];simp)
        clear hR h2
        go_enter Tryz.func9,Tryz.ntmps9
        go_wp2_with fail
        go_ret
        exact⟨ret_bool HN.out,((Ext.refl w).alloc _).alloc _⟩
    · have f1:(k !=k')=true:=by rw[bne_iff_ne];exact h1
      have HN:Hid (false=R):=Lh (by rw[←hR,decide_eq_false h1];simp)
      clear hR h1
      go_enter Tryz.func9,Tryz.ntmps9
      go_wp2_with fail
      go_ret
      exact⟨ret_bool HN.out,((Ext.refl w).alloc _).alloc _⟩
def cntA:List Attr→Nat
  | []=>0
  | a::r=>1+a.n.length+a.v.length+cntA r
mutual
def cntN:Node→Nat
  | .mk _ n t la ks=>1+n.length+t.length+cntA la+cntL ks
def cntL:List Node→Nat
  | []=>0
  | n::r=>cntN n+cntL r
end
def smallA (m:Nat):Nat→List Attr→Nat
  | c,[]=>c
  | c,a::r=>if c≤m then smallA m (c+1+a.n.length+a.v.length) r else c
mutual
def smallN (m:Nat):Node→Nat
  | .mk _ n t la ks=>smallL m (smallA m (1+n.length+t.length) la) ks
def smallL (m:Nat):Nat→List Node→Nat
  | c,[]=>c
  | c,n::r=>if c≤m then smallL m (c+smallN m n) r else c
end
theorem smallA_le (m:Nat):∀(l:List Attr) (c:Nat),smallA m c l≤c+cntA l∧c≤smallA m c l∧(smallA m c l≤m→smallA m c l=c+cntA l)
  | [],c=>by simp[smallA,cntA]
  | a::r,c=>by
    unfold smallA cntA
    split
    · have:=smallA_le m r (c+1+a.n.length+a.v.length);omega
    · exact⟨by omega,by omega,fun h=>by omega⟩
mutual
theorem smallN_le (m:Nat):∀n:Node,smallN m n≤cntN n∧(smallN m n≤m→smallN m n=cntN n)
  | .mk k n t la ks=>by
    rw[smallN,cntN]
    have h1:=smallA_le m la (1+n.length+t.length)
    have h2:=smallL_le m ks (smallA m (1+n.length+t.length) la)
    omega
theorem smallL_le (m:Nat):∀(l:List Node) (c:Nat),smallL m c l≤c+cntL l∧c≤smallL m c l∧(smallL m c l≤m→smallL m c l=c+cntL l)
  | [],c=>by simp[smallL,cntL]
  | n::r,c=>by
    rw[smallL,cntL]
    have h1:=smallN_le m n
    have h2:=smallL_le m r (c+smallN m n)
    split
    · omega
    · exact⟨by omega,by omega,fun h=>by omega⟩
end
theorem cntA_get:∀(l:List Attr) (i:Nat) (h:i< l.length),1+l[i].n.length+l[i].v.length+cntA (l.drop (i+1))=cntA (l.drop i)
  | l,i,h=>by rw[drop_one l i h,cntA]
theorem cntL_get (l:List Node) (i:Nat) (h:i< l.length):cntN l[i]+cntL (l.drop (i+1))=cntL (l.drop i):=by rw[drop_one l i h,cntL]
theorem smallA_get (m c:Nat) (l:List Attr) (i:Nat) (h:i< l.length):smallA m c (l.drop i)=if c≤m then smallA m (c+1+l[i].n.length+l[i].v.length) (l.drop (i+1))else c:=by rw[drop_one l i h,smallA]
theorem smallL_get (m c:Nat) (l:List Node) (i:Nat) (h:i< l.length):smallL m c (l.drop i)=if c≤m then smallL m (c+smallN m l[i]) (l.drop (i+1))else c:=by rw[drop_one l i h,smallL]
theorem cntN_pos (n:Node):1≤cntN n:=by cases n;rw[cntN];omega
theorem small_any (m:Nat) (hm:m≤1048576):∀(N:Nat) (a:Node) (p:Nat→Prop) (va vk:Value) (w:World),nsz a≤N→cntN a≤1048576→Rep w p va (attrsD a.attrs)→Rep w p vk (nodesD a.kids)→
    Calls Tryz.prog 32 #[.agg #[.int .i64 a.kind,.string (bs a.name),.string (bs a.text),va,vk],.int .i64 m] w fun e w'=>e= .returned (.int .i64 (smallN m a))∧Ext w w':=by
  intro N
  induction N with
  | zero=>intro a p va vk w hN;cases a;rw[nsz]at hN;omega
  | succ N ih=>
    intro a p va vk w hN hcnt hva hvk
    have hkid:=fun i h=>kid_lt a i h
    obtain⟨k,nm,tx,la,ks⟩:=a
    simp only[Node.kind,Node.name,Node.text,Node.attrs,Node.kids]at*
    obtain⟨ba,ca,rfl,ha1,ha2⟩:=hva.count z_attr (by omega)
    obtain⟨bk,ck,rfl,hk1,hk2⟩:=hvk.count z_node (by omega)
    obtain⟨R,hR⟩:∃R,smallN m (.mk k nm tx la ks)=R:=⟨_,rfl⟩
    rw[hR]
    rw[smallN]at hR
    rw[cntN]at hcnt
    have HM:Hid (∀(i:Nat) (h:i< ks.length),nsz ks[i]≤N):=Lh (fun i h=>by have:=hkid i h;omega)
    have HR:Hid (smallL m (smallA m (1+nm.length+tx.length) (la.drop 0)) ks=R):=Lh hR
    have HC0:Hid (1+nm.length+tx.length+cntA (la.drop 0)+cntL ks≤1048576):=Lh hcnt
    have b1:(bs nm).size≤1048576:=by rw[bs_size];omega
    have b2:(bs tx).size≤1048576:=by rw[bs_size];omega
    have hm0:(m:Int)≤1048576:=by omega
    clear hkid hN hR hcnt
    have IH:=Lh ih
    clear ih
    go_enter Tryz.func32,Tryz.ntmps32
    go_wp2_with fail
    obtain⟨w1,hw1⟩:∃w1,(w.alloc (.cells #[.int .i64 k,.string (bs nm),.string (bs tx),.slice ba la.length ca,.slice bk ks.length ck] 26))=w1:=⟨_,rfl⟩
    have hE1:Ext w w1:=by rw[←hw1];exact(Ext.refl w).alloc _
    have l0:w.heap.size< w1.heap.size:=by rw[←hw1];simp
    have c3:w1.cell? ⟨w.heap.size,3,none⟩=some (.slice ba la.length ca):=by rw[←hw1];simp[go_sem]
    have c4:w1.cell? ⟨w.heap.size,4,none⟩=some (.slice bk ks.length ck):=by rw[←hw1];simp[go_sem]
    rw[hw1]
    clear hw1
    go_loopw [5,6] (fun c t wr=>∃(n i:Nat),c= .int .i64 n∧t= .int .i64 i∧i≤la.length∧n≤1048576∧Ext w1 wr∧Hid (smallL m (smallA m n (la.drop i)) ks=R)∧Hid (n+cntA (la.drop i)+cntL ks≤1048576)) (fun _ t _=>downV la.length t)
    case atStart=>exact⟨1+(bs nm).size+(bs tx).size,0,by go_num,rfl,Nat.zero_le _,by have:=HC0.out;simp only[bs_size];omega,Ext.refl _,Lh (by simp only[bs_size];exact HR.out),Lh (by have:=HC0.out;simp only[bs_size];omega)⟩
    case round=>
      obtain⟨n,i,rfl,rfl,hi,hn,hX,HI,HQ⟩:=hrel
      have c3r:=hX.keep l0 c3
      have c4r:=hX.keep l0 c4
      have hn0:(n:Int)≤1048576:=by omega
      have n0:(0:Int)≤(n:Int):=by omega
      have hi0:(0:Int)≤(i:Int):=by omega
      have m0:(0:Int)≤(m:Int):=by omega
      by_cases hgo:i< la.length∧n≤m
      · obtain⟨hlt,hle⟩:=hgo
        have hlI:(i:Int)< (la.length:Int):=by omega
        have hleI:(n:Int)≤(m:Int):=by omega
        obtain⟨g,o,rfl,hb,_,e1,e2⟩:=attr_at (hva.ext (hE1.trans hX)) i hlt
        have h1:=cntA_get la i hlt
        have HS:Hid (smallA m n (la.drop i)=smallA m (n+1+la[i].n.length+la[i].v.length) (la.drop (i+1))):=Lh (by rw[smallA_get m n la i hlt,if_pos hle])
        obtain⟨x,hx⟩:∃x,la[i]=x:=⟨_,rfl⟩
        rw[hx]at e1 e2 HS h1
        have hq:=HQ.out
        have x1:(bs x.n).size≤1048576:=by rw[bs_size];omega
        have x2:(bs x.v).size≤1048576:=by rw[bs_size];omega
        have HN:Hid (smallL m (smallA m (n+1+(bs x.n).size+(bs x.v).size) (la.drop (i+1))) ks=R):=Lh (by rw[←HI.out,HS.out,bs_size,bs_size])
        have HQN:Hid (n+1+(bs x.n).size+(bs x.v).size+cntA (la.drop (i+1))+cntL ks≤1048576):=Lh (by rw[bs_size,bs_size];omega)
        have hnb:n+1+(bs x.n).size+(bs x.v).size≤1048576:=by have:=HQN.out;omega
        have HXX:=Lh hX
        have s1:IntKind.i64.wrap ((n:Int)+1)=(n:Int)+1:=IntWalk.i64_in _ (by omega)
        have s2:IntKind.i64.wrap ((n:Int)+1+((bs x.n).size:Int))=(n:Int)+1+((bs x.n).size:Int):=IntWalk.i64_in _ (by omega)
        have s3:IntKind.i64.wrap ((n:Int)+1+((bs x.n).size:Int)+((bs x.v).size:Int))=(n:Int)+1+((bs x.n).size:Int)+((bs x.v).size:Int):=IntWalk.i64_in _ (by omega)
        clear hq h1 hx HI HQ HS
        go_wp2_with fail
        go_quiet (fail)
        clear s1 s2 s3
        go_wp2_with fail
        go_roundw
        case rel=>exact⟨n+1+(bs x.n).size+(bs x.v).size,i+1,by go_num,by go_num,by omega,hnb,HXX.out.drewN _,HN,HQN⟩
        case measure=>simp only[downV];omega
      · have HS:Hid (smallA m n (la.drop i)=n):=Lh (by
          by_cases hlt:i< la.length
          · rw[smallA_get m n la i hlt,if_neg (by omega)]
          · rw[List.drop_of_length_le (by omega)];rfl)
        have HN:Hid (smallL m n (ks.drop 0)=R):=Lh (by rw[←HI.out,HS.out];rfl)
        have HQN:Hid (n+cntL (ks.drop 0)≤1048576):=Lh (by have:=HQ.out;rw[List.drop_zero];omega)
        have hend:Hid (¬(i< la.length∧n≤m)):=Lh hgo
        obtain⟨w2,hw2⟩:∃w2,w2=wr:=⟨_,rfl⟩
        subst hw2
        clear HI HQ HS hgo
        have key:∀(b:Bool),Hid (((decide ((i:Int)< (la.length:Int))) && decide ((n:Int)≤(m:Int)))=b)→b=false:=fun b hb=>by
          have h1:=hend.out
          rw[←hb.out,Bool.and_eq_false_iff]
          by_cases h2:i< la.length
          · exact Or.inr (decide_eq_false (by omega))
          · exact Or.inl (decide_eq_false (by omega))
        clear key
        by_cases hlt:i< la.length
        all_goals
          first
          | (have hlI:(i:Int)< (la.length:Int):=by omega
             have hleI:¬(n:Int)≤(m:Int):=by have:=hend.out;omega
             clear hlt hend;go_wp2_with fail)
          | (have hlI:¬(i:Int)< (la.length:Int):=by omega
             clear hlt hend;go_wp2_with fail)
        all_goals
          go_loopw [5,7] (fun c t wr=>∃(n i:Nat),c= .int .i64 n∧t= .int .i64 i∧i≤ks.length∧n≤1048576∧Ext w1 wr∧Hid (smallL m n (ks.drop i)=R)∧Hid (n+cntL (ks.drop i)≤1048576)) (fun _ t _=>downV ks.length t)
          case atStart=>exact⟨n,0,rfl,rfl,Nat.zero_le _,hn,hX,HN,HQN⟩
          case round=>
            clear HN HQN hn hn0 n0 hi0 hi
            obtain⟨n,i,rfl,rfl,hi,hn,hX2,HI,HQ⟩:=hrel
            have c4r:=hX2.keep l0 c4
            have hn0:(n:Int)≤1048576:=by omega
            have n0:(0:Int)≤(n:Int):=by omega
            have hi0:(0:Int)≤(i:Int):=by omega
            by_cases hlt:i< ks.length
            · have hlI:(i:Int)< (ks.length:Int):=by omega
              by_cases hle:n≤m
              · have hleI:(n:Int)≤(m:Int):=by omega
                obtain⟨g,o,x1,x2,rfl,hb,_,e0,e1,e2,e3,e4,hr1,hr2⟩:=node_at (hvk.ext (hE1.trans hX2)) i hlt
                have h1:=cntL_get ks i hlt
                have HS:Hid (smallL m n (ks.drop i)=smallL m (n+smallN m ks[i]) (ks.drop (i+1))):=Lh (by rw[smallL_get m n ks i hlt,if_pos hle])
                have h2:=smallN_le m ks[i]
                have hNi:=HM.out i hlt
                obtain⟨x,hx⟩:∃x,ks[i]=x:=⟨_,rfl⟩
                rw[hx]at e0 e1 e2 HS h1 h2 hr1 hr2 hNi
                have hq:=HQ.out
                obtain⟨s,hs⟩:∃s,smallN m x=s:=⟨_,rfl⟩
                have HC:=Lh fun W (hE:Ext wr W)=>IH.out x p x1 x2 W hNi (by omega) (hr1.ext hE) (hr2.ext hE)
                rw[hs]at HS h2 HC
                have HN:Hid (smallL m (n+s) (ks.drop (i+1))=R):=Lh (by rw[←HI.out,HS.out])
                have HQN:Hid (n+s+cntL (ks.drop (i+1))≤1048576):=Lh (by omega)
                have hnb:n+s≤1048576:=by omega
                have s0:(0:Int)≤(s:Int):=by omega
                have s1:(s:Int)≤1048576:=by omega
                clear hq h1 h2 hx HI HQ HS hs hNi
                go_wp2_with fail
                refine(HC.out _ (Ext.refl _)).mono ?_
                rintro e w3 ⟨rfl,hB3⟩
                go_wp2_with fail
                go_roundw
                case rel=>exact⟨n+s,i+1,by go_num,by go_num,by omega,hnb,hX2.trans hB3,HN,HQN⟩
                case measure=>simp only[downV];omega
              · have hleI:¬(n:Int)≤(m:Int):=by omega
                have HS:Hid (n=R):=Lh (by rw[←HI.out,smallL_get m n ks i hlt,if_neg hle])
                clear HI HQ
                go_wp2_with fail
                go_ret
                exact⟨ret_int (by rw[HS.out]),hE1.trans hX2⟩
            · have hlI:¬(i:Int)< (ks.length:Int):=by omega
              have HS:Hid (n=R):=Lh (by rw[←HI.out,List.drop_of_length_le (by omega)];rw[smallL])
              clear HI HQ
              go_wp2_with fail
              go_ret
              exact⟨ret_int (by rw[HS.out]),hE1.trans hX2⟩
theorem bigsmall_any (m:Nat) (hm:m≤1048576) (a:Node) (p:Nat→Prop) (va vk:Value) (w:World) (hc:cntN a≤1048576) (hva:Rep w p va (attrsD a.attrs)) (hvk:Rep w p vk (nodesD a.kids)):
    Calls Tryz.prog 17 #[.agg #[.int .i64 a.kind,.string (bs a.name),.string (bs a.text),va,vk],.int .i64 m] w fun e w'=>e= .returned (.bool (decide (smallN m a≤m)))∧Ext w w':=by
  have HC:=Lh fun W (hE:Ext w W)=>small_any m hm (nsz a) a p va vk W (Nat.le_refl _) hc (hva.ext hE) (hvk.ext hE)
  obtain⟨ba,ca,rfl,ha1,ha2⟩:=hva.count z_attr (by omega)
  obtain⟨bk,ck,rfl,hk1,hk2⟩:=hvk.count z_node (by omega)
  obtain⟨s,hs⟩:∃s,smallN m a=s:=⟨_,rfl⟩
  rw[hs]at HC⊢
  clear hs hva hvk hc
  go_enter Tryz.func17,Tryz.ntmps17
  go_wp2_with fail
  refine(HC.out _ ((Ext.refl w).alloc _)).mono ?_
  rintro e w1 ⟨rfl,hB1⟩
  go_wp2_with fail
  go_ret
  exact⟨ret_bool (by first | rfl | exact decide_eq_decide.2 (by omega)),((Ext.refl w).alloc _).trans hB1⟩
def SomeB (P:Bool→Prop) (e:Ending):Prop:=∃b,e= .returned (.bool b)∧P b
theorem rsmall_any (p:Nat→Prop) (x:List Rule) (v:Value) (w:World) (h:Rep w p v (rulesD x)):
    Calls Tryz.prog 16 #[v] w fun e w'=>SomeB (fun _=>True) e∧Ext w w':=by
  obtain⟨a,c,rfl,hc1,hc2⟩:=h.count z_rule (by omega)
  go_enter Tryz.func16,Tryz.ntmps16
  go_wp2_with fail
  go_loopw [3,4,5,6] (fun n t _ _ wr=>∃(i:Nat) (s:Int),n= .int .i64 s∧t= .int .i64 i∧i≤x.length∧Ext w wr) (fun _ t _ _ _=>downV x.length t)
  case atStart=>exact⟨0,_,rfl,rfl,Nat.zero_le _,Ext.refl _⟩
  case round=>
    obtain⟨i,s,rfl,rfl,hi,hX⟩:=hrel
    have hi0:(0:Int)≤(i:Int):=by omega
    by_cases hlt:i< x.length
    · have hlI:(i:Int)< (x.length:Int):=by omega
      obtain⟨g,o,vp,vk,rfl,hb,hp,e1,e2,hr1,hr2⟩:=rule_at (h.ext hX) i hlt
      obtain⟨r,hr⟩:∃r,x[i]=r:=⟨_,rfl⟩
      rw[hr]at hr1 hr2
      obtain⟨pa,pc,rfl,_,_⟩:=hr1.count z_str (by omega)
      obtain⟨ka,kc,rfl,_,_⟩:=hr2.count z_str (by omega)
      have HXX:=Lh hX
      clear hr
      obtain⟨w0,hw0⟩:∃w0,w0=wr:=⟨_,rfl⟩
      subst hw0
      go_wp2_with fail
      go_quiet (fail)
      obtain⟨w1,hw1⟩:∃w1,w0.drewN nq=w1:=⟨_,rfl⟩
      have hE1:Ext w0 w1:=by rw[←hw1];exact(Ext.refl _).drewN _
      rw[hw1]
      clear hw1
      have e1r:=hE1.keep hb e1
      have e2r:=hE1.keep hb e2
      go_wp2_with fail
      have lb1:g< w1.heap.size:=Nat.lt_of_lt_of_le hb hE1.size
      go_loopw [3,5] (fun n t wr=>∃(j:Nat) (s:Int),n= .int .i64 s∧t= .int .i64 j∧j≤r.path.length∧Ext w1 wr) (fun _ t _=>downV r.path.length t)
      case atStart=>exact⟨0,_,rfl,rfl,Nat.zero_le _,Ext.refl _⟩
      case round=>
        obtain⟨j,s,rfl,rfl,hj,hX2⟩:=hrel
        have hj0:(0:Int)≤(j:Int):=by omega
        have e1q:=hX2.keep lb1 e1r
        have e2q:=hX2.keep lb1 e2r
        by_cases hlj:j< r.path.length
        · have hljI:(j:Int)< (r.path.length:Int):=by omega
          obtain⟨g2,o2,rfl,hb2,_,d1⟩:=str_at (hr1.ext (hE1.trans hX2)) j hlj
          by_cases hs:s< 3000
          · go_wp2_with fail
            go_roundw
            case rel=>exact⟨j+1,_,rfl,by go_num,by omega,hX2⟩
            case measure=>simp only[downV];omega
          · go_wp2_with fail
            obtain⟨w2,hw2⟩:∃w2,w2=wr:=⟨_,rfl⟩
            subst hw2
            have hE2:=hE1.trans hX2
            have lb2:g< w2.heap.size:=Nat.lt_of_lt_of_le lb1 hX2.size
            have f1:=hX2.keep lb1 e1r
            have f2:=hX2.keep lb1 e2r
            clear e1r e2r e1q e2q lb1 hX2 hE1 hj hj0
            have e1r:=f1
            have e2r:=f2
            have lb1:=lb2
            have hE1:=hE2
            clear f1 f2 lb2 hE2
            go_loopw [3,6] (fun n t wr=>∃(j:Nat) (s:Int),n= .int .i64 s∧t= .int .i64 j∧j≤r.keys.length∧Ext w2 wr) (fun _ t _=>downV r.keys.length t)
            case atStart=>exact⟨0,_,rfl,rfl,Nat.zero_le _,Ext.refl _⟩
            case round=>
              obtain⟨j,s,rfl,rfl,hj,hX2⟩:=hrel
              have hj0:(0:Int)≤(j:Int):=by omega
              have e1q:=hX2.keep lb1 e1r
              have e2q:=hX2.keep lb1 e2r
              by_cases hlj:j< r.keys.length
              · have hljI:(j:Int)< (r.keys.length:Int):=by omega
                obtain⟨g2,o2,rfl,hb2,_,d1⟩:=str_at (hr2.ext (hE1.trans hX2)) j hlj
                by_cases hs:s< 3000
                · go_wp2_with fail
                  go_roundw
                  case rel=>exact⟨j+1,_,rfl,by go_num,by omega,hX2⟩
                  case measure=>simp only[downV];omega
                · have h3:3000≤s:=by omega
                  clear hs
                  go_wp2_with fail
                  go_ret
                  exact⟨⟨_,rfl,trivial⟩,(HXX.out.trans hE1).trans hX2⟩
              · have hljI:¬(j:Int)< (r.keys.length:Int):=by omega
                by_cases h3:3000≤s
                · go_wp2_with fail
                  go_ret
                  exact⟨⟨_,rfl,trivial⟩,(HXX.out.trans hE1).trans hX2⟩
                · have h4:s< 3000:=by omega
                  clear h3
                  go_wp2_with fail
                  all_goals exact⟨⟨i+1,_,rfl,by go_num,by omega,(HXX.out.trans hE1).trans hX2⟩,by simp only[downV];omega⟩
        · have hljI:¬(j:Int)< (r.path.length:Int):=by omega
          go_wp2_with fail
          obtain⟨w2,hw2⟩:∃w2,w2=wr:=⟨_,rfl⟩
          subst hw2
          have hE2:=hE1.trans hX2
          have lb2:g< w2.heap.size:=Nat.lt_of_lt_of_le lb1 hX2.size
          have f1:=hX2.keep lb1 e1r
          have f2:=hX2.keep lb1 e2r
          clear e1r e2r e1q e2q lb1 hX2 hE1 hj hj0
          have e1r:=f1
          have e2r:=f2
          have lb1:=lb2
          have hE1:=hE2
          clear f1 f2 lb2 hE2
          go_loopw [3,6] (fun n t wr=>∃(j:Nat) (s:Int),n= .int .i64 s∧t= .int .i64 j∧j≤r.keys.length∧Ext w2 wr) (fun _ t _=>downV r.keys.length t)
          case atStart=>exact⟨0,_,rfl,rfl,Nat.zero_le _,Ext.refl _⟩
          case round=>
            obtain⟨j,s,rfl,rfl,hj,hX2⟩:=hrel
            have hj0:(0:Int)≤(j:Int):=by omega
            have e1q:=hX2.keep lb1 e1r
            have e2q:=hX2.keep lb1 e2r
            by_cases hlj:j< r.keys.length
            · have hljI:(j:Int)< (r.keys.length:Int):=by omega
              obtain⟨g2,o2,rfl,hb2,_,d1⟩:=str_at (hr2.ext (hE1.trans hX2)) j hlj
              by_cases hs:s< 3000
              · go_wp2_with fail
                go_roundw
                case rel=>exact⟨j+1,_,rfl,by go_num,by omega,hX2⟩
                case measure=>simp only[downV];omega
              · have h3:3000≤s:=by omega
                clear hs
                go_wp2_with fail
                go_ret
                exact⟨⟨_,rfl,trivial⟩,(HXX.out.trans hE1).trans hX2⟩
            · have hljI:¬(j:Int)< (r.keys.length:Int):=by omega
              by_cases h3:3000≤s
              · go_wp2_with fail
                go_ret
                exact⟨⟨_,rfl,trivial⟩,(HXX.out.trans hE1).trans hX2⟩
              · have h4:s< 3000:=by omega
                clear h3
                go_wp2_with fail
                all_goals exact⟨⟨i+1,_,rfl,by go_num,by omega,(HXX.out.trans hE1).trans hX2⟩,by simp only[downV];omega⟩
    · have hlI:¬(i:Int)< (x.length:Int):=by omega
      go_wp2_with fail
      go_ret
      exact⟨⟨_,rfl,trivial⟩,hX⟩
def Ret (p:Nat→Prop) (D:DV) (e:Ending) (w':World):Prop:=∃v,e= .returned v∧Rep w' p v D
theorem blk_cell {w:World} {g k:Nat} {cs:Array Value} {t:TypeId} {u:Value} (h:w.heap[g]? =some (.cells cs t (0,0))) (hk:cs[k]? =some u):w.cell? ⟨g,k,none⟩=some u:=by simp[World.cell?,h,hk]
theorem blk_free {w:World} {g k:Nat} {cs:Array Value} {t:TypeId} (h:w.heap[g]? =some (.cells cs t (0,0))):w.frozen? ⟨g,k,none⟩=false:=by simp[World.frozen?,h]
theorem blk_lt {w:World} {g:Nat} {o:Obj} (h:w.heap[g]? =some o):g< w.heap.size:=by
  rcases Nat.lt_or_ge g w.heap.size with h' | h'
  · exact h'
  · simp[Array.getElem?_eq_none h']at h
def escC (v:Bool) (c:UInt8):Bytes:=
  if c.toNat=38 then [38,97,109,112,59]
  else if c.toNat=60 then [38,108,116,59]
  else if c.toNat=13 then [38,35,49,51,59]
  else if c.toNat=62∧v=false then [38,103,116,59]
  else if c.toNat=34∧v=true then [38,113,117,111,116,59]
  else if c.toNat=9∧v=true then [38,35,57,59]
  else if c.toNat=10∧v=true then [38,35,49,48,59]
  else [c]
def escS (v:Bool) (l:Bytes):Bytes:=l.flatMap (escC v)
def attrT (a:Attr):Bytes:= [32]++a.n++ [61,34]++escS true a.v++ [34]
mutual
def txtN:Node→Bytes
  | .mk k n t la ks=>
    if k=2 then escS false t
    else if k=3 then [60,33,45,45]++t++ [45,45,62]
    else if k=4 then(if t= []then [60,63]++n++ [63,62]else [60,63]++n++ [32]++t++ [63,62])
    else if k≠1 then []
    else if ks.length=0 then([60]++n++la.flatMap attrT)++ [47,62]
    else([60]++n++la.flatMap attrT)++ [62]++txtL ks++ [60,47]++n++ [62]
def txtL:List Node→Bytes
  | []=> []
  | n::r=>txtN n++txtL r
end
def splitS (c:UInt8):Bytes→Bytes→List Bytes
  | cur,[]=> [cur]
  | cur,b::r=>if b=c then cur::splitS c [] r else splitS c (cur++ [b]) r
theorem infoStr:(Tryz.prog.info? 9).map (fun i=>(i.zero,i.size,i.bytes))=some (some (.string ⟨#[]⟩),1,16):=by kernel_rfl
def attrGet (x:Bytes):List Attr→Option Bytes
  | []=>none
  | a::r=>if a.n=x then some a.v else attrGet x r
def manyK (x:Bytes):List Node→Nat→Node→Nat×Node
  | [],m,n=>(m,n)
  | k::r,m,n=>if k.kind=1∧k.name=x then manyK x r (m+1) k else manyK x r m n
def zeroN:Node:= .mk 0 [] [] [] []
def walkV:Node→List Bytes→Option Bytes
  | n,[]=>some (txtL n.kids)
  | n,c::cs=>if c.getD 0 0=64 then attrGet (c.drop 1) n.attrs else if(manyK c n.kids 0 zeroN).1=1 then walkV (manyK c n.kids 0 zeroN).2 cs else none
def valS (n:Node) (path:Bytes):Option Bytes:=if path= [46]then some (txtL n.kids)else walkV n (splitS 47 [] path)
structure B5 (W:World) (b:Nat) (n:Node) (xa xk:Value):Prop where
  lt:b< W.heap.size
  c0:W.cell? ⟨b,0,none⟩=some (.int .i64 n.kind)
  c1:W.cell? ⟨b,1,none⟩=some (.string (bs n.name))
  c2:W.cell? ⟨b,2,none⟩=some (.string (bs n.text))
  c3:W.cell? ⟨b,3,none⟩=some xa
  c4:W.cell? ⟨b,4,none⟩=some xk
  f0:W.frozen? ⟨b,0,none⟩=false
  f1:W.frozen? ⟨b,1,none⟩=false
  f2:W.frozen? ⟨b,2,none⟩=false
  f3:W.frozen? ⟨b,3,none⟩=false
  f4:W.frozen? ⟨b,4,none⟩=false
theorem B5.ext {W W':World} {b:Nat} {n:Node} {xa xk:Value} (h:B5 W b n xa xk) (hB:Ext W W'):B5 W' b n xa xk:=
  ⟨Nat.lt_of_lt_of_le h.lt hB.size,hB.keep h.lt h.c0,hB.keep h.lt h.c1,hB.keep h.lt h.c2,hB.keep h.lt h.c3,hB.keep h.lt h.c4,hB.free h.lt h.f0,hB.free h.lt h.f1,hB.free h.lt h.f2,hB.free h.lt h.f3,hB.free h.lt h.f4⟩
def st5 (W:World) (b:Nat) (n:Node) (xa xk:Value):World:=((((W.setCell ⟨b,0,none⟩ (.int .i64 n.kind)).setCell ⟨b,1,none⟩ (.string (bs n.name))).setCell ⟨b,2,none⟩ (.string (bs n.text))).setCell ⟨b,3,none⟩ xa).setCell ⟨b,4,none⟩ xk
theorem B5.put {W:World} {b:Nat} {m n:Node} {ya yk xa xk:Value} (h:B5 W b m ya yk):B5 (st5 W b n xa xk) b n xa xk:=by
  have l:=h.lt
  have c0:=h.c0;have c1:=h.c1;have c2:=h.c2;have c3:=h.c3;have c4:=h.c4
  have f0:=h.f0;have f1:=h.f1;have f2:=h.f2;have f3:=h.f3;have f4:=h.f4
  unfold st5
  exact⟨by simpa using l,by simp[go_sem,c0,c1,c2,c3,c4],by simp[go_sem,c0,c1,c2,c3,c4],by simp[go_sem,c0,c1,c2,c3,c4],by simp[go_sem,c0,c1,c2,c3,c4],by simp[go_sem,c0,c1,c2,c3,c4],by simp[go_sem,f0],by simp[go_sem,f1],by simp[go_sem,f2],by simp[go_sem,f3],by simp[go_sem,f4]⟩
theorem Ext.st5 {a w:World} (h:Ext a w) {b:Nat} (hb:a.heap.size≤b) (n:Node) (xa xk:Value):Ext a (st5 w b n xa xk):=
  ((((h.set hb _).set hb _).set hb _).set hb _).set hb _
def keyS (n:Node):List Bytes→Option (List Bytes)
  | []=>some []
  | k::r=>match valS n k with
    | none=>none
    | some v=>(keyS n r).map (v:: ·)
section
variable {P:Program} {ops:Array Oper} {Q:Exit→Act→World→Prop} {S:World→Prop} {fuel:Nat} {listed:Array Bool} {a:Act} {w:World} {K:Act→World→Prop}
theorem rg_one (i:Nat) (hr:Region.ready .any ops listed= [i]) (h1:wpOp P ops Q i (fun a w=>S w∧wpAnyH P .any ops Q S fuel (listed.setIfInBounds i true) a w) a w):wpAnyH P .any ops Q S (fuel+1) listed a w:=by
  refine wpAnyH_all hr (by simp) fun j hj=> ?_
  obtain rfl:j=i:=by simpa using hj
  exact h1
theorem rg_two (i j:Nat) (hr:Region.ready .any ops listed= [i,j]) (h1:wpOp P ops Q i (fun a w=>S w∧wpAnyH P .any ops Q S fuel (listed.setIfInBounds i true) a w) a w)
    (h2:wpOp P ops Q j (fun a w=>S w∧wpAnyH P .any ops Q S fuel (listed.setIfInBounds j true) a w) a w):wpAnyH P .any ops Q S (fuel+1) listed a w:=by
  refine wpAnyH_all hr (by simp) fun k hk=> ?_
  have hk':k=i∨k=j:=by simpa using hk
  rcases hk' with rfl | rfl
  · exact h1
  · exact h2
theorem tk_new (i:Nat) (d:Option Tmp) (o:Obj) (f:Nat→Value) {oi:Oper} (hi:ops[i]? =some oi) (hd:oi.dst=d) (hw:Region.wanted oi (yielded ops a.tmps)=true)
    (hrun:(execOp a.eval oi).run P w= .ok (.value (f w.heap.size)) (w.alloc o)) (h:∀g W,g=w.heap.size→Ext w W→W.heap.size=w.heap.size+1→W.heap[g]? =some o→K (a.put d (f g)) W):wpOp P ops Q i K a w:=by
  unfold wpOp
  simp only[hi,hw,if_true]
  refine Or.inl ?_
  unfold Oper.wp
  rw[hrun,Oper.upon_value,hd]
  exact h _ _ rfl ((Ext.refl w).alloc _) (by simp) Array.getElem?_push_size
theorem tk_app (i:Nat) (d:Option Tmp) {oi:Oper} (hi':ops[i]? =some oi) (hd:oi.dst=d) (hw:Region.wanted oi (yielded ops a.tmps)=true) (s x:Operand) (t:TypeId)
    (ho:oi.op= .call {callee:= .builtin .append,args:= #[s,x],argTypes:= #[t,t]})
    (base:Nat) (e:TypeId) (i0:TypeInfo) (z:Value) (size bytes:Nat) (ht:P.underlying t=some (.slice e)) (hi:P.info? e=some i0) (hz:i0.zero=some z)
    (hsize:i0.size=size) (hby:i0.bytes=bytes) (hzs:z.cells.size=size) (hsz:0< size)
    (v:Value) (n:Nat) (xs:List Value) (hs:a.eval s=v) (hown:w.ownsRow base e size v n xs)
    (ad:Addr) (m c:Nat) (news:List Value) (hx:a.eval x= .slice (some ad) m c) (hl:news.length=m*size) (hnews:∀j u,news[j]? =some u→w.cell? (ad.add j)=some u) (h1:∀u∈news,u.oneCell'=true)
    (h63:n+m≤maxLen) (hbytes:(n+m)*bytes≤140737488355328) (hbase:base≤w.heap.size)
    (h:∀v' w',w'.ownsRow base e size v' (n+m) (xs++news)→w.grownBy w' v.ownBlock→(v'.ownBlock=v.ownBlock∨v'.ownBlock=some w.heap.size)→K (a.put d v') w'):wpOp P ops Q i K a w:=by
  unfold wpOp
  simp only[hi',hw,if_true]
  refine Or.inl ?_
  obtain⟨v',w',hr,h2,h3,h4,h5⟩:=run_append_own_at (P:=P) w base t oi.type e i0 z size bytes ht hi hz hsize hby hzs hsz v n xs hown ad m c news hl hnews h1 h63 hbytes hbase
  unfold Oper.wp execOp
  simp only[ho,resolve,invoke,builtin,Sem.run_bind,Sem.run_pure,Result.andThen_ok,List.map_toArray,List.map_cons,List.map_nil,hs,hx,hr]
  rw[Oper.upon_value,hd]
  exact h v' w' h2 h3 h5
end
end Go.Proofs.YtcfibjiikhnfhaaGreatDoor
