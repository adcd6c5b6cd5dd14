/- Part of the proof. -/
import Derived.Test.YtbhnjkegkadodaaGreatDoorG21
import Derived.Test.YtbhnjkegkadodaaGreatDoorG23
set_option linter.all false
set_option maxRecDepth 100000
set_option maxHeartbeats 8000000
namespace Gz
open Go Go.RowKit Go.Proofs Gl
def Deleted (base:Nat) (e:TypeId) (size:Nat) (w:World) (g n c:Nat) (ys:List Value) (en:Ending) (w':World):Prop:=
 en=.returned (.slice (some ⟨g,0,none⟩) (n-1) c)/\w'.ownsRow base e size (.slice (some ⟨g,0,none⟩) (n-1) c) (n-1) ys/\Upd (fun b=>b=g) w w'
theorem zero182 (w:World):(zeroValue 182).run Tryz.prog w=.ok (.agg #[.slice none 0 0,.slice none 0 0]) w:=by
 obtain⟨i0,a1,a2,_,_⟩:=info_parts info182;simp[zeroValue,typeInfo,a1,a2]
theorem zs2:∀(zs:List Value),(∀u ∈ ([.slice none 0 0,.slice none 0 0]:List Value),u.oneCell'=true):=fun _ u hu=>by
 simp only[List.mem_cons,List.not_mem_nil,or_false]at hu;rcases hu with rfl|rfl<;>rfl
theorem own_cell {w:World} {base:Nat} {e:TypeId} {size g n c:Nat} {xs:List Value} (h:w.ownsRow base e size (.slice (some ⟨g,0,none⟩) n c) n xs) {j:Nat} {u:Value} (hj:xs[j]?=some u):w.cell? ⟨g,j,none⟩=some u:=by
 obtain⟨hl,⟨e1,_⟩|⟨g',c',cur,e1,hb,hh,a5,hm,hs,ht⟩⟩:=h
 · cases e1
 cases e1;have a1:=(List.getElem?_eq_some_iff.1 hj).1;refine zaa hh j u ?_
 rw[<-ht,List.getElem?_take]at hj;rw[hl]at a1;rw[if_pos a1,Array.getElem?_toList]at hj;exact hj
theorem del182 {w:World} {base g n c i:Nat} {xs:List Value} (hown:w.ownsRow base 182 2 (.slice (some ⟨g,0,none⟩) n c) n xs) (h1:∀v ∈ xs,v.oneCell'=true) (hi:i<n) (hbig:n<=1048576):
 Calls Tryz.prog 208 #[.slice (some ⟨g,0,none⟩) n c,.int .i64 (i:Int),.int .i64 ((i:Int)+1)] w (Deleted base 182 2 w g n c (xs.take (i*2) ++ xs.drop ((i+1)*2))):=by
 obtain⟨i0,d5,f4,d6,f5⟩:=info_parts info182;have a7:=Sl.of_own hown;have c6:n<=c/\c<=maxLen:=⟨a7.le,a7.max⟩
 have e4:c<=9223372036854775807:=by have:=c6.2;unfold maxLen at this;omega
 have b0:xs.length=n*2:=hown.1;have a4:=ownsRow_del hown hi (zs:=[.slice none 0 0,.slice none 0 0]) rfl;obtain⟨news,a1⟩:=zE (xs.drop ((i+1)*2));have a3:news.length=(n-(i+1))*2:=by rw[a1,List.length_drop,b0,Nat.sub_mul]
 rw[<-a1]at a4;obtain⟨A,hA,b7⟩:∃A:Addr,(if c=i+1 then some (⟨g,0,none⟩:Addr) else some ⟨g,(i+1)*2,none⟩)=some A/\Hid (∀t u,news[t]?=some u->w.drew.cell? (A.add t)=some u):=by
  by_cases h:c=i+1
  · refine⟨⟨g,0,none⟩,by simp[h],fun t u hu=>?_⟩;have:=(List.getElem?_eq_some_iff.1 hu).1;rw[a3,show n-(i+1)=0 by omega]at this;omega
  · refine⟨⟨g,(i+1)*2,none⟩,by simp[h],fun t u hu=>?_⟩;rw[a1,List.getElem?_drop]at hu;have h2:=own_cell hown hu;rw[Addr.add_lit];exact h2
 have s1:Hid (news.length=(n-(i+1))*2):=zqH a3;have s2:Hid (∀u ∈ news,u.oneCell'=true):=zqH (fun u hu=>h1 u (List.mem_of_mem_drop (a1▸hu)));obtain⟨d7,⟨e1,_⟩|⟨g',c',cur,e1,hb,hh,d9,hm,hs,ht⟩⟩:=id hown
 · cases e1
 cases e1;have s3:Hid (∀t,t<news.length → (w.drew.cell? ⟨g,0+i*2+t,none⟩).isSome=true/\w.drew.frozen? ⟨g,0+i*2+t,none⟩=false):=zqH (fun t ht'=>by
   rw[a3]at ht';have d0:0+i*2+t<cur.size:=by rw[hs];omega
   refine⟨?_,zad (w:=w) hh _⟩;show(w.cell? ⟨g,0+i*2+t,none⟩).isSome=true;rw[zaa hh _ _ (Array.getElem?_eq_getElem d0)];rfl)
 obtain⟨W1,a2⟩:=zE (w.drew.setCells g (0+i*2) news);have a8:W1.heap[g]?=some (.cells (Ex.splice cur (0+i*2) news) 182 (0,0)):=by
   rw[a2,zan (w:=w.drew) _ _ hh,Ex.withObj_heap w.drew g _ g (show g<w.drew.heap.size from(zqA.1 hh).1),if_pos rfl]
 have a5:(Ex.splice cur (0+i*2) news).size=c*2:=by rw[Ex.splice_size,hs]
 have e5:∀ty,(Builtin.clear_ #[251] ty #[.slice (some ⟨g,(i+(n-(i+1)))*2,none⟩) (n-(i+(n-(i+1)))) (c-(i+(n-(i+1))))]).run Tryz.prog W1=.ok (.tuple #[]) (W1.setCells g ((i+(n-(i+1)))*2) [.slice none 0 0,.slice none 0 0]):=fun ty=>by
   rw[show n-(i+(n-(i+1)))=1 by omega];refine run_clear_one W1 251 182 ty (.agg #[.slice none 0 0,.slice none 0 0]) [.slice none 0 0,.slice none 0 0] Tryz.underlying251 zero182 (by simp[Builtin.zeroCells,Value.cells,List.range,List.range.loop]) (zs2 []) g _ _ (fun j hj=>?_) (fun j hj=>zad a8 _);simp only[List.length_cons,List.length_nil]at hj;rw[zaa a8 _ _ (Array.getElem?_eq_getElem (by rw[a5];omega))];rfl
 have b5:Upd (fun b=>b=g) w W1:=by rw[a2];exact(Upd.refl _ w).drew.trans (Upd.setCells (S:=fun b=>b=g) rfl _ _ _)
 have a6:(W1.setCells g ((i+(n-(i+1)))*2) [.slice none 0 0,.slice none 0 0]).ownsRow base 182 2 (.slice (some ⟨g,0,none⟩) (n-1) c) (n-1) (xs.take (i*2) ++ news)/\Upd (fun b=>b=g) w (W1.setCells g ((i+(n-(i+1)))*2) [.slice none 0 0,.slice none 0 0]):=by
   have h2:=ownsRow_del (w:=w.drew) (zae hown (fun b hb hl=>rfl)) hi (zs:=[.slice none 0 0,.slice none 0 0]) rfl;rw[<-a1,show i*2=0+i*2 by omega,<-a2,show(n-1)*2=(i+(n-(i+1)))*2 by omega,show 0+i*2=i*2 by omega]at h2;exact⟨h2,b5.trans (Upd.setCells (S:=fun b=>b=g) rfl _ _ _)⟩
 have hW:=zqH a2;have b6:=zqH a6;have e7:i<=c:=by omega
 have e8:i+1<=c:=by omega
 have e9:(0:Int)<=(i:Int)+1:=by omega
 have f0:(i:Int)+1<=(n:Int):=by omega
 have f2:((i:Int) == (i:Int)+1)=false:=by rw[beq_eq_false_iff_ne];omega
 have c5:Hid (news=xs.drop ((i+1)*2)):=zqH a1;rw[<-a1];clear a2 a8 hh hb d9 hm hs ht d7 hown a7 b0 a4 a1 a3 b5 a6 a5 h1;go_enter Tryz.func208,Tryz.ntmps208
 go_wp2_with fail
 go_region_law (refine step_append_room rfl (.tmp 22) (.tmp 25) 251 rfl 182 i0 2 Tryz.underlying251 d5 d6 g 0 i c (by simp[Act.eval,Act.put]) A (n-(i+1)) (c-(i+1)) news (by simp[Act.eval,Act.put]) s1.out b7.out s2.out (by omega) s3.out ?_;rw[<-hW.out])
 all_goals go_wp2
 all_goals go_ret
 all_goals
   obtain⟨e2,e3⟩:=b6.out;exact⟨by rw[show n-1=i+(n-(i+1)) by omega];rfl,e2,e3⟩
theorem zero251 (w:World):(zeroValue 251).run Tryz.prog w=.ok (.slice none 0 0) w:=by
 obtain⟨i0,a1,a2,_,_⟩:=info_parts info251;simp[zeroValue,typeInfo,a1,a2]
theorem del251 {w:World} {base g n c i:Nat} {xs:List Value} (hown:w.ownsRow base 251 1 (.slice (some ⟨g,0,none⟩) n c) n xs) (h1:∀v ∈ xs,v.oneCell'=true) (hi:i<n) (hbig:n<=1048576):
 Calls Tryz.prog 209 #[.slice (some ⟨g,0,none⟩) n c,.int .i64 (i:Int),.int .i64 ((i:Int)+1)] w (Deleted base 251 1 w g n c (xs.take (i) ++ xs.drop ((i+1)))):=by
 obtain⟨i0,d5,f4,d6,f5⟩:=info_parts info251;have a6:=Sl.of_own hown;have c6:n<=c/\c<=maxLen:=⟨a6.le,a6.max⟩
 have e4:c<=9223372036854775807:=by have:=c6.2;unfold maxLen at this;omega
 have b0:xs.length=n:=by simpa using hown.1
 have b5:True:=trivial;obtain⟨news,a1⟩:=zE (xs.drop ((i+1)));have a3:news.length=(n-(i+1)):=by rw[a1,List.length_drop,b0]
 obtain⟨A,hA,b8⟩:∃A:Addr,(if c=i+1 then some (⟨g,0,none⟩:Addr) else some ⟨g,(i+1),none⟩)=some A/\Hid (∀t u,news[t]?=some u->w.drew.cell? (A.add t)=some u):=by
  by_cases h:c=i+1
  · refine⟨⟨g,0,none⟩,by simp[h],fun t u hu=>?_⟩;have:=(List.getElem?_eq_some_iff.1 hu).1;rw[a3,show n-(i+1)=0 by omega]at this;omega
  · refine⟨⟨g,(i+1),none⟩,by simp[h],fun t u hu=>?_⟩;rw[a1,List.getElem?_drop]at hu;have h2:=own_cell hown hu;rw[Addr.add_lit];exact h2
 have s1:Hid (news.length=(n-(i+1))*1):=zqH (by rw[Nat.mul_one];exact a3);have s2:Hid (∀u ∈ news,u.oneCell'=true):=zqH (fun u hu=>h1 u (List.mem_of_mem_drop (a1▸hu)));obtain⟨d7,⟨e1,_⟩|⟨g',c',cur,e1,hb,hh,d9,hm,hs,ht⟩⟩:=id hown
 · cases e1
 cases e1;have s3:Hid (∀t,t<news.length → (w.drew.cell? ⟨g,0+i*1+t,none⟩).isSome=true/\w.drew.frozen? ⟨g,0+i*1+t,none⟩=false):=zqH (fun t ht'=>by
   rw[a3]at ht';have d0:0+i*1+t<cur.size:=by rw[hs];omega
   refine⟨?_,zad (w:=w) hh _⟩;show(w.cell? ⟨g,0+i*1+t,none⟩).isSome=true;rw[zaa hh _ _ (Array.getElem?_eq_getElem d0)];rfl)
 obtain⟨W1,a2⟩:=zE (w.drew.setCells g (0+i*1) news);have a7:W1.heap[g]?=some (.cells (Ex.splice cur (0+i*1) news) 251 (0,0)):=by
   rw[a2,zan (w:=w.drew) _ _ hh,Ex.withObj_heap w.drew g _ g (show g<w.drew.heap.size from(zqA.1 hh).1),if_pos rfl]
 have a4:(Ex.splice cur (0+i*1) news).size=c:=by rw[Ex.splice_size,hs,Nat.mul_one]
 have e5:∀ty,(Builtin.clear_ #[170] ty #[.slice (some ⟨g,(i+(n-(i+1))),none⟩) (n-(i+(n-(i+1)))) (c-(i+(n-(i+1))))]).run Tryz.prog W1=.ok (.tuple #[]) (W1.setCells g ((i+(n-(i+1)))) [.slice none 0 0]):=fun ty=>by
   rw[show n-(i+(n-(i+1)))=1 by omega];refine run_clear_one W1 170 251 ty (.slice none 0 0) [.slice none 0 0] Tryz.underlying170 zero251 (by simp[Builtin.zeroCells,Value.cells,List.range,List.range.loop]) (fun u hu=>by simp only[List.mem_cons,List.not_mem_nil,or_false]at hu;rcases hu with rfl;rfl) g _ _ (fun j hj=>?_) (fun j hj=>zad a7 _);simp only[List.length_cons,List.length_nil]at hj;rw[zaa a7 _ _ (Array.getElem?_eq_getElem (by rw[a4];omega))];rfl
 have a8:Upd (fun b=>b=g) w W1:=by rw[a2];exact(Upd.refl _ w).drew.trans (Upd.setCells (S:=fun b=>b=g) rfl _ _ _)
 have a5:(W1.setCells g ((i+(n-(i+1)))) [.slice none 0 0]).ownsRow base 251 1 (.slice (some ⟨g,0,none⟩) (n-1) c) (n-1) (xs.take (i) ++ news)/\Upd (fun b=>b=g) w (W1.setCells g ((i+(n-(i+1)))) [.slice none 0 0]):=by
   have h2:=ownsRow_del (w:=w.drew) (zae hown (fun b hb hl=>rfl)) hi (zs:=[.slice none 0 0]) rfl;simp only[Nat.mul_one]at h2;rw[show i+(n-(i+1))=n-1 by omega,a2,show 0+i*1=i by omega];rw[<-a1]at h2;exact⟨h2,(by rw[a2,show 0+i*1=i by omega]at a8;exact a8:Upd (fun b=>b=g) w (w.drew.setCells g i news)).trans (Upd.setCells (S:=fun b=>b=g) rfl _ _ _)⟩
 have hW:=zqH a2;have b7:=zqH a5;have e7:i<=c:=by omega
 have e8:i+1<=c:=by omega
 have e9:(0:Int)<=(i:Int)+1:=by omega
 have f0:(i:Int)+1<=(n:Int):=by omega
 have f2:((i:Int) == (i:Int)+1)=false:=by rw[beq_eq_false_iff_ne];omega
 have c5:Hid (news=xs.drop ((i+1))):=zqH a1;rw[<-a1];clear a2 a7 hh hb d9 hm hs ht d7 hown a6 b0 b5 a1 a3 a8 a5 a4 h1;go_enter Tryz.func209,Tryz.ntmps209
 go_wp2_with fail
 go_region_law (refine step_append_room rfl (.tmp 22) (.tmp 25) 170 rfl 251 i0 1 Tryz.underlying170 d5 d6 g 0 i c (by simp[Act.eval,Act.put]) A (n-(i+1)) (c-(i+1)) news (by simp[Act.eval,Act.put]) s1.out b8.out s2.out (by omega) s3.out ?_;rw[<-hW.out])
 all_goals go_wp2
 all_goals go_ret
 all_goals
   obtain⟨e2,e3⟩:=b7.out;exact⟨by rw[show n-1=i+(n-(i+1)) by omega];rfl,e2,e3⟩
theorem grow_c {w:World} {m:Nat} (h0:0<m) (hbig:m<=1048576):
 Calls Tryz.prog 272 #[.slice none 0 0,.int .i64 (m:Int)] w fun e w'=>∃cp,e=.returned (.slice (some ⟨w.heap.size,0,none⟩) 0 cp)/\m<=cp/\w'.ownsRow w.heap.size 182 2 (.slice (some ⟨w.heap.size,0,none⟩) 0 cp) 0 []/\New w w':=by
 obtain⟨i0,b5,b6,c5,a7⟩:=info_parts info182;have a1:(Builtin.firstCells i0.size 0 (.slice none 0 0)).run Tryz.prog w.drew=.ok ([]:List Value).toArray w.drew:=run_firstCells_none w.drew i0.size 0 0 0;have a4:∀ty,(Builtin.append_ #[251,3] ty #[.slice none 0 0,.int .i64 (m:Int)]).run Tryz.prog w=.ok (.slice (some ⟨w.heap.size,0,none⟩) m (grownCap w m 0 182)) (w.drew.alloc (.cells (([]:List Value).toArray ++ Builtin.zeroCells (Value.agg #[.slice none 0 0,.slice none 0 0]).cells m ++ Builtin.zeroCells (Value.agg #[.slice none 0 0,.slice none 0 0]).cells (grownCap w m 0 182-m)) 182)):=fun ty=>by
  have h:=Lib.run_append_grow_zeros w 251 3 ty 182 i0 _ .i64 .i64 Tryz.underlying251 Tryz.underlying3 b5 b6 none 0 0 [] a1 m h0 (by omega) (by omega) (by omega) (by rw[a7];omega) (by rw[a7,Nat.zero_add];exact growslice_fits (by omega) (by omega));rw[Nat.zero_add]at h;exact h
 have hG:=grownCap_ge w m 0 182;have a5:=grownCap_le_maxLen w m 0 182 (by unfold maxLen;omega);obtain⟨G,b7⟩:=zE (grownCap w m 0 182);rw[<-b7]at a4 hG a5;clear b7 a1;have b9:=a5;unfold maxLen at b9;have h1:((m:Int)<0)=False:=by simp
 have a6:∀k,(Builtin.zeroCells (Value.agg #[.slice none 0 0,.slice none 0 0]).cells k).size=k*2:=fun k=>by
  simp[Builtin.zeroCells,Value.cells]
 obtain⟨a8,a2⟩:=zE (([]:List Value).toArray ++ Builtin.zeroCells (Value.agg #[.slice none 0 0,.slice none 0 0]).cells m ++ Builtin.zeroCells (Value.agg #[.slice none 0 0,.slice none 0 0]).cells (G-m):Array Value);have a9:a8.size=G*2:=by rw[a2,Array.size_append,Array.size_append,a6,a6];simp;omega
 rw[<-a2]at a4;have a3:∀W':World,W'.heap=w.heap.push (.cells a8 182)->W'.ownsRow w.heap.size 182 2 (.slice (some ⟨w.heap.size,0,none⟩) 0 G) 0 []:=fun W' hW=>by
  refine⟨rfl,.inr ⟨w.heap.size,G,a8,rfl,zR _,?_,by omega,a5,a9,by simp⟩⟩;rw[hW];simp
 have b0:=zqH a3;clear a3 b5 b6 c5 a7 i0 a2 a9 a6;go_enter Tryz.func272,Tryz.ntmps272
 go_wp2_with (at_builtin;refine Lib.wpList_append_run _ rfl _ _ _ _ rfl _ _ rfl rfl _ _ (a4 _) ?_)
 all_goals go_ret
 all_goals exact⟨G,rfl,hG,b0.out _ rfl,((Upd.refl _ _).trans (zU _ _ _)).drew⟩
theorem app_own {w:World} {base base' g n cp gs m c:Nat} {xs ys:List Value} (ho:w.ownsRow base 182 2 (.slice (some ⟨g,0,none⟩) n cp) n xs) (hs:w.ownsRow base' 182 2 (.slice (some ⟨gs,0,none⟩) m c) m ys) (h1:∀v ∈ ys,v.oneCell'=true) (hroom:n+m<=cp):
 ∃W',(∀ty,(Builtin.append_ #[251,251] ty #[.slice (some ⟨g,0,none⟩) n cp,.slice (some ⟨gs,0,none⟩) m c]).run Tryz.prog w=.ok (.slice (some ⟨g,0,none⟩) (n+m) cp) W')/\W'.ownsRow base 182 2 (.slice (some ⟨g,0,none⟩) (n+m) cp) (n+m) (xs ++ ys)/\Upd (fun b=>b=g) w W':=by
 obtain⟨i0,a7,b6,a2,b7⟩:=info_parts info182;obtain⟨hl,⟨e1,_⟩|⟨g',c',cur,e1,hb,hh,b8,hm,a3,ht⟩⟩:=id ho
 · cases e1
 cases e1;have a1:ys.length=m*2:=hs.1;refine⟨w.setCells g (n*2) ys,fun ty=>?_,?_,Upd.setCells (S:=fun b=>b=g) rfl _ _ _⟩
 · have h:=run_append_room_cells (P:=Tryz.prog) w 251 ty 182 i0 Tryz.underlying251 a7 g 0 n cp ⟨gs,0,none⟩ m c ys (by rw[a2];exact a1) (fun j u hu=>by rw[Addr.add_lit,Nat.zero_add];exact own_cell hs hu) h1 hroom (fun j hj=>by
    rw[a2,zaa hh _ _ (Array.getElem?_eq_getElem (by rw[a3];omega))];rfl) (fun j hj=>zad hh _)
   rw[a2,Nat.zero_add]at h;exact h
 · have a5:=(zqA.1 hh).1;have a6:(w.setCells g (n*2) ys).heap[g]?=some (.cells (Ex.splice cur (n*2) ys) 182 (0,0)):=by
    rw[zan _ _ hh,Ex.withObj_heap _ _ _ _ a5,if_pos rfl]
   refine ownsRow_spliced (w:=w) (n:=n) (xs:=xs) (cur:=cur) hb a6 hroom hm (by rw[Ex.splice_size,a3]) (by rw[List.length_append,hl,a1];omega) (fun j u hj=>?_);have b0:j<n*2+m*2:=by
    have:=(List.getElem?_eq_some_iff.1 hj).1;rw[List.length_append,hl,a1]at this;exact this
   rw[Ex.splice_get _ _ _ _ (by omega)];by_cases hjn:j<n*2
   · rw[if_neg (by omega)];rw[List.getElem?_append_left (by omega)]at hj;rw[<-ht,List.getElem?_take,if_pos hjn,Array.getElem?_toList]at hj;exact hj
   · rw[List.getElem?_append_right (by omega),hl]at hj;rw[if_pos (by omega)];exact hj
def Cat (w:World) (m:Nat) (zs:List Value) (en:Ending) (w':World):Prop:=∃cp,en=.returned (.slice (some ⟨w.heap.size,0,none⟩) m cp)/\w'.ownsRow w.heap.size 182 2 (.slice (some ⟨w.heap.size,0,none⟩) m cp) m zs/\New w w'
theorem concat_c {w:World} {base bx g1 n1 c1 g2 n2 c2:Nat} {te:TypeId} {xs ys:List Value} (hb:w.heap[bx]?=some (.cells #[.slice (some ⟨g1,0,none⟩) n1 c1,.slice (some ⟨g2,0,none⟩) n2 c2] te (0,0))) (s1:w.ownsRow base 182 2 (.slice (some ⟨g1,0,none⟩) n1 c1) n1 xs) (s2:w.ownsRow base 182 2 (.slice (some ⟨g2,0,none⟩) n2 c2) n2 ys)
 (h1:∀v ∈ xs,v.oneCell'=true) (h2:∀v ∈ ys,v.oneCell'=true) (hn1:0<n1) (hn2:0<n2) (hn:n1+n2<=64):Calls Tryz.prog 251 #[.slice (some ⟨bx,0,none⟩) 2 2] w (Cat w (n1+n2) (xs ++ ys)):=by
 have b0:=zaa hb 0 _ rfl;have b1:=zaa hb 1 _ rfl;have a3:=zqH (grow_c (w:=w) (m:=n1+n2) (by omega) (by omega));have S1:=zqH s1;have S2:=zqH s2;have O1:=zqH h1;have O2:=zqH h2;have HB:=zqH hb;have d9:n1<=c1/\c1<=maxLen:=⟨(Sl.of_own s1).le,(Sl.of_own s1).max⟩
 have e0:n2<=c2/\c2<=maxLen:=⟨(Sl.of_own s2).le,(Sl.of_own s2).max⟩
 clear s1 s2 h1 h2 hb;go_enter Tryz.func251,Tryz.ntmps251;go_wp2;refine wp_loop_rounds 3 ?_
 rw[rounds_succ];go_wp2;rw[rounds_succ];go_wp2;rw[rounds_succ]
 go_wp2_with (go_at_call 272;refine a3.out.mono ?_;rintro e W1 ⟨cp,rfl,e4,ho,a2⟩;have d0:=(a2.cell (zqB w _ b0) id).trans b0;have d1:=(a2.cell (zqB w _ b1) id).trans b1;have HO:=zqH ho;have HN:=zqH a2;clear a3 ho a2 b0 b1)
 obtain⟨W2,a4,a5,a1⟩:=app_own (m:=n1) HO.out (zae S1.out (fun b _ hl=>HN.out.block b hl id)) O1.out (by omega);simp only[Nat.zero_add]at a4 a5;refine wp_loop_rounds 3 ?_
 rw[rounds_succ]
 go_wp2_with (at_builtin;refine Lib.wpList_append_run _ rfl _ _ _ _ rfl _ _ rfl rfl _ _ (a4 _) ?_)
 have b6:bx<w.heap.size:=(zqA.1 HB.out).1;have a6:bx<W1.heap.size:=zqL b6 HN.out.size;have k1:=(a1.cell (a:=⟨bx,1,none⟩) a6 (by show ¬bx=w.heap.size;omega)).trans d1;have b9:g2<w.heap.size:=(zal S2.out (c:=g2) rfl).1;obtain⟨W3,b7,a7,a8⟩:=app_own (m:=n2) a5 (zae (zae S2.out (fun b _ hl=>HN.out.block b hl id)) (fun b hb hl=>a1.block b hl (fun e=>by simp[Value.ownBlock]at hb;omega))) O2.out (by omega);have HE:=zqH (zN a7 ((HN.out.mono (fun _ _ h=>h.elim):Upd (fun b=>b=w.heap.size) w W1).trans (a1.trans a8)));clear a5 a1 a7 a8 a4 d0 d1;rw[rounds_succ]
 go_wp2_with (at_builtin;refine Lib.wpList_append_run _ rfl _ _ _ _ rfl _ _ rfl rfl _ _ (b7 _) ?_)
 rw[rounds_succ];go_wp2;go_ret;refine⟨cp,by simp,by simpa using HE.out.1,HE.out.2.mono (fun b hb e=>by omega)⟩
theorem SetEnd.trans {base bm:Nat} {F F':Nat->Prop} {w w' w'':World} {L:List Ent} {e:Ending} (hF:∀x,F' x->F x\/w.heap.size<=x) (hu:Upd F w w') (h:SetEnd base bm F' w' L e w''):SetEnd base bm F w L e w'':=by
 obtain⟨b,F2,a1,e1,e2,e3,e4,e5⟩:=h;refine⟨b,F2,a1,e1,e2,fun x hx=>?_,hu.then e4 (fun c hc hh=>(hF c hh).elim id (fun h=>by omega)),e5⟩;rcases e3 x hx with h|h
 · exact hF x h
 · exact .inr (zT hu.size h)
theorem joins_neg {w:World} {bm:Nat}:Calls Tryz.prog 210 #[.pointer (some ⟨bm,0,none⟩),.int .i64 (-1)] w fun e w'=>e=.returned (.bool false)/\New w w':=by
 go_enter Tryz.func210,Tryz.ntmps210
 go_wp2
 go_quiet (fail)
 all_goals go_wp2
 all_goals go_ret
 all_goals exact⟨rfl,(Upd.refl _ _).drewN _⟩
theorem joins_last {base bm n c p:Nat} {w:World} {D:Nat->Prop} {A:Option Addr} {vs:List Value} {ps:List (List Ent)} (h:MapIn 182 251 base w bm D A n c vs ps) (hp:p+1=ps.length) (hps:ps.length<=1000000):
 Calls Tryz.prog 210 #[.pointer (some ⟨bm,0,none⟩),.int .i64 (p:Int)] w fun e w'=>e=.returned (.bool false)/\New w w':=by
 have hn:=h.n_eq;have a2:=h.cell0;have h1:decide ((p:Int)<0)=false:=by simp
 have a3:IntKind.i64.wrap ((p:Int)+1)=(p:Int)+1:=by rw[IntKind.wrap_i64];omega
 have h2:decide ((p:Int)+1 ≥ (n:Int))=true:=by simp;omega
 have h3:decide ((n:Int)<=(p:Int)+1)=true:=by simp;omega
 have h4:(n:Int)<=(p:Int)+1:=by omega
 have a4:p<=1000000:=by omega
 clear h hn hp hps;go_enter Tryz.func210,Tryz.ntmps210;go_wp2
 go_quiet (fail)
 all_goals go_wp2
 all_goals go_ret
 all_goals exact⟨rfl,(Upd.refl _ _).drewN _⟩
theorem joins_many {base bm n c p:Nat} {w:World} {D:Nat->Prop} {A:Option Addr} {vs:List Value} {ps:List (List Ent)} (h:MapIn 182 251 base w bm D A n c vs ps) (hp:p+1<ps.length) (hps:ps.length<=1000000) (hs:16<ps[p].length+ps[p+1].length):
 Calls Tryz.prog 210 #[.pointer (some ⟨bm,0,none⟩),.int .i64 (p:Int)] w fun e w'=>e=.returned (.bool false)/\New w w':=by
 have hn:=h.n_eq;have d0:=h.cell0;obtain⟨g0,gp,cp,cs,rfl,a6,a7,a8,a9,a2⟩:=h.at (i:=p) (by omega);obtain⟨d8,gq,cq,d9,e0,b0,b5,b6,b7,a1⟩:=h.at (i:=p+1) hp;cases e0;have a4:=few_len h (p:=p) (by omega);have a5:=few_len h (p:=p+1) hp;obtain⟨m,hm⟩:=zE (ps[p].length);obtain⟨m',a3⟩:∃m',m'=ps[p+1].length:=⟨_,rfl⟩
 rw[<-hm]at a7 hs a4;rw[<-a3]at b5 hs a5;have h1:decide ((p:Int)<0)=false:=by simp
 have h2:decide ((p:Int)+1 ≥ (n:Int))=false:=by simp;omega
 have h4:(p:Int)+1<(n:Int):=by omega
 have d5:p<=1000000:=by omega
 have d6:p<n:=by omega
 have b9:p+1<n:=by omega
 have d7:IntKind.i64.wrap ((p:Int)+1)=(p:Int)+1:=by rw[IntKind.wrap_i64];omega
 have h5:decide ((16:Int)<(m:Int)+(m':Int))=true:=by simp;omega
 clear h hn hp hps a6 a8 a9 a2 b0 b6 b7 a1 hm a3;go_enter Tryz.func210,Tryz.ntmps210;go_wp2
 go_quiet (fail)
 all_goals go_wp2
 all_goals go_ret
 all_goals exact⟨rfl,(Upd.refl _ _).drewN _⟩
theorem page_out {base bm n c i g0 N:Nat} {W W8:World} {D:Nat->Prop} {vs:List Value} {ps:List (List Ent)} {en:Ending} (h:MapRaw 182 251 base W bm D (some ⟨g0,0,none⟩) n c N vs ps) (hi:i<ps.length) (hd:Deleted base 251 1 W g0 n c (vs.take i ++ vs.drop (i+1)) en W8):
 W8.cell? ⟨bm,0,none⟩=some (.slice (some ⟨g0,0,none⟩) n c)/\W8.frozen? ⟨bm,0,none⟩=false/\en=.returned (.slice (some ⟨g0,0,none⟩) (n-1) c) /\
 MapRaw 182 251 base (W8.setCell ⟨bm,0,none⟩ (.slice (some ⟨g0,0,none⟩) (n-1) c)) bm D (some ⟨g0,0,none⟩) (n-1) c N (vs.take i ++ vs.drop (i+1)) (ps.take i ++ ps.drop (i+1)) /\
 Upd (fun b=>b=bm\/b=g0) W (W8.setCell ⟨bm,0,none⟩ (.slice (some ⟨g0,0,none⟩) (n-1) c)):=by
 obtain⟨he,ho,hu⟩:=hd;have a2:g0≠bm:=fun e=>h.bmA (by simp[Value.ownBlock,e]);obtain⟨t,ht⟩:=h.blk;have a1:=(hu.block bm (zqA.1 ht).1 (fun e=>a2 e.symm)).trans ht;have a3:Upd (fun b=>b=bm) W8 (W8.setCell ⟨bm,0,none⟩ (.slice (some ⟨g0,0,none⟩) (n-1) c)):=Upd.setCell W8 _ rfl;have hU:Upd (fun b=>b=bm\/b=g0) W (W8.setCell ⟨bm,0,none⟩ (.slice (some ⟨g0,0,none⟩) (n-1) c)):=(hu.mono (fun _ _ e=>.inr e)).trans (a3.mono (fun _ _ e=>.inl e));refine⟨zaa a1 0 _ rfl,zad a1 0,he,?_,hU⟩;refine h.page_del hi (hU.mono (fun b _ e=>e.imp id (fun e=>by rw[e];rfl))) ⟨t,by rw[zac a1];rfl⟩ ?_
 exact zae ho (fun b hb hl=>a3.block b hl (fun e=>by
  simp[Value.ownBlock]at hb;exact a2 (hb.trans e)))
theorem foot_out {bm n c i:Nat} {D:Nat->Prop} {A:Option Addr} {vs:List Value} {b:Nat} (h:foot bm D A (n-1) c (vs.take i ++ vs.drop (i+1)) b):foot bm D A n c vs b:=by
 have a2:(Value.slice A (n-1) c).ownBlock=(Value.slice A n c).ownBlock:=by cases A<;>rfl
 rcases h with h|h|⟨v,hv,h⟩|h
 · exact .inl h
 · rw[a2]at h;exact .inr (.inl h)
 · refine .inr (.inr (.inl ⟨v,?_,h⟩));rcases List.mem_append.1 hv with hv|hv
   · exact List.mem_of_mem_take hv
   · exact List.mem_of_mem_drop hv
 · exact .inr (.inr (.inr h))
theorem foot_set {bm n c p:Nat} {D:Nat->Prop} {A:Option Addr} {vs:List Value} {v':Value} {b z:Nat} (h:foot bm D A n c (vs.set p v') b) (hv:∀x,v'.ownBlock=some x → (∃v ∈ vs,v.ownBlock=some x)\/z<=x):foot bm D A n c vs b\/z<=b:=by
 rcases h with h|h|⟨v,hm,h⟩|h
 · exact .inl (.inl h)
 · exact .inl (.inr (.inl h))
 · rcases List.mem_or_eq_of_mem_set hm with hm|rfl
   · exact .inl (.inr (.inr (.inl ⟨v,hm,h⟩)))
   · exact(hv b h).imp (fun h=>.inr (.inr (.inl h))) id
 · exact .inl (.inr (.inr (.inr h)))
theorem joined_set {base bm n c p g0 gp cp gn cn:Nat} {w W6:World} {D:Nat->Prop} {vs:List Value} {ps:List (List Ent)} {zs:List Value} (h:MapIn 182 251 base w bm D (some ⟨g0,0,none⟩) n c vs ps) (hp:p+1<ps.length)
 (hvp:vs[p]?=some (.slice (some ⟨gp,0,none⟩) (ps[p]'(by omega)).length cp)) (hn:New w W6) (ho:W6.ownsRow base 182 2 (.slice (some ⟨gn,0,none⟩) ((ps[p]'(by omega)).length+ps[p+1].length) cn) ((ps[p]'(by omega)).length+ps[p+1].length) zs)
 (he:EntsAt D w zs (ps[p]'(by omega) ++ ps[p+1])) (hgn:w.heap.size<=gn):
 MapRaw 182 251 base (W6.setCell ⟨g0,p,none⟩ (.slice (some ⟨gn,0,none⟩) ((ps[p]'(by omega)).length+ps[p+1].length) cn)) bm D (some ⟨g0,0,none⟩) n c ps.flatten.length (vs.set p (.slice (some ⟨gn,0,none⟩) ((ps[p]'(by omega)).length+ps[p+1].length) cn)) (ps.set p (ps[p]'(by omega) ++ ps[p+1])) /\
  Upd (touch bm (some ⟨g0,0,none⟩) n c vs p) w (W6.setCell ⟨g0,p,none⟩ (.slice (some ⟨gn,0,none⟩) ((ps[p]'(by omega)).length+ps[p+1].length) cn)):=by
 obtain⟨t,ht⟩:=h.blk;exact raw_replace h.toMapRaw (by omega) hvp (hn.mono (fun _ _ e=>e.elim)) ⟨t,(hn.block bm (zqA.1 ht).1 id).trans ht⟩ (fun _ hb=>hb) (fun _ hb=>.inl hb) (fun b hb=>zqL (h.lim b hb) hn.size) ho (by rw[List.length_append])
  (he.imp (fun _ _ hb=>hb.upd hn (fun _ _=>id))) (.inr hgn) (fun hd=>by have:=h.lim gn hd;omega)
theorem joined_end {base bm n c p g0 gp cp gn cn:Nat} {w W6 W8:World} {D F:Nat->Prop} {vs:List Value} {ps:List (List Ent)} {zs:List Value} {en:Ending} (h:MapIn 182 251 base w bm D (some ⟨g0,0,none⟩) n c vs ps) (hF:∀b,foot bm D (some ⟨g0,0,none⟩) n c vs b->F b) (hp:p+1<ps.length) (hs:(ps[p]'(by omega)).length+ps[p+1].length<=16)
 (hvp:vs[p]?=some (.slice (some ⟨gp,0,none⟩) (ps[p]'(by omega)).length cp)) (hn:New w W6) (ho:W6.ownsRow base 182 2 (.slice (some ⟨gn,0,none⟩) ((ps[p]'(by omega)).length+ps[p+1].length) cn) ((ps[p]'(by omega)).length+ps[p+1].length) zs)
 (he:EntsAt D w zs (ps[p]'(by omega) ++ ps[p+1])) (hgn:w.heap.size<=gn)
 (hd:Deleted base 251 1 (W6.setCell ⟨g0,p,none⟩ (.slice (some ⟨gn,0,none⟩) ((ps[p]'(by omega)).length+ps[p+1].length) cn)) g0 n c ((vs.set p (.slice (some ⟨gn,0,none⟩) ((ps[p]'(by omega)).length+ps[p+1].length) cn)).take (p+1) ++ (vs.set p (.slice (some ⟨gn,0,none⟩) ((ps[p]'(by omega)).length+ps[p+1].length) cn)).drop (p+1+1)) en W8):
 W8.cell? ⟨bm,0,none⟩=some (.slice (some ⟨g0,0,none⟩) n c)/\W8.frozen? ⟨bm,0,none⟩=false/\en=.returned (.slice (some ⟨g0,0,none⟩) (n-1) c) /\
 SetEnd base bm F w ps.flatten (.returned (.bool true)) (W8.setCell ⟨bm,0,none⟩ (.slice (some ⟨g0,0,none⟩) (n-1) c)):=by
 obtain⟨h7,a1⟩:=joined_set h hp hvp hn ho he hgn;obtain⟨k0,kf,ke,h9,a2⟩:=page_out (i:=p+1) h7 (by rw[List.length_set];exact hp) hd;have e:joined ps p=(ps.set p (ps[p]'(by omega) ++ ps[p+1])).take (p+1) ++ (ps.set p (ps[p]'(by omega) ++ ps[p+1])).drop (p+1+1):=by
  unfold joined;rw[zG (show p<ps.length by omega),zG hp];rfl
 rw[<-e,<-joined_flat hp]at h9;refine⟨k0,kf,ke,true,_,joined ps p,rfl,⟨D,_,_,_,_,⟨h9,joined_pages hp h.good,joined_few hp h.few hs⟩,fun b hb=>hb⟩,fun x hx=>?_,?_,joined_flat hp⟩
 · exact(foot_set (foot_out hx) (fun x e=>by simp[Value.ownBlock]at e;exact .inr (e▸hgn))).imp (hF x) id
 · refine(a1.mono (fun b _ hb=>?_)).then a2 (fun b hb e=>?_)
   · rcases hb with e|e|⟨v,hv,e⟩
     · exact hF b (.inl e)
     · exact hF b (.inr (.inl e))
     · exact hF b (.inr (.inr (.inl ⟨v,List.mem_of_getElem? hv,e⟩)))
   · rcases e with e|e
     · exact hF b (.inl e)
     · exact hF b (.inr (.inl (by rw[e];rfl)))
end Gz
