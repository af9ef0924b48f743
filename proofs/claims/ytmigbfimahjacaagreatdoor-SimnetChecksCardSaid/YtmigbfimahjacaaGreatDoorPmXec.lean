/- What the example's calls are made of. Printed by mkch.py. -/
import Derived.Test.YtmigbfimahjacaaGreatDoorPmFSb
import Derived.KernelRfl
set_option linter.unusedSimpArgs false
set_option linter.unusedVariables false
section
set_option maxRecDepth 100000
namespace Go.Pm
open F
def qza:V:=(.dat (.lit (.string ⟨#[]⟩)))
def qyn:V:=(.dat (.agg [(di 0),(di 0),(.lit (.string ⟨#[]⟩)),(.lit (.slice none 0 0)),(di 0),(di 0),(.lit (.string ⟨#[]⟩)),(.lit (.slice none 0 0)),(di 0),(di 0),(.lit (.string ⟨#[]⟩)),(.lit (.slice none 0 0))]))
def qzu:V:=(.tup [(.dat (.agg [(.lit (.slice none 0 0)),(di (-1)),(di (-1)),(di (-1))])),(vi 0)])
def qs9:V:=(.dat (.lit (.string ⟨#[111,110,32,116,105,99,107,32,123,32,110,32,61,32,110,32,43,32,49,59,32,105,102,32,110,32,62,61,32,51,32,123,32,101,102,102,101,99,116,32,49,44,32,110,59,32,110,32,61,32,48,59,32,125,32,125]⟩)))
def qvt:D:=(.lit (.string ⟨#[111,110]⟩))
def qyo:D:=(.lit (.string ⟨#[116,105,99,107]⟩))
def qzv:D:=(.lit (.string ⟨#[105,102]⟩))
def qxv:D:=(.lit (.string ⟨#[101,102,102,101,99,116]⟩))
def qyp:V:=(.gsl [(di 2),qvt,(di 0),(di 0),(di 0),(di 2),qyo,(di 3),(di 0),(di 0),(di 5),(.lit (.string ⟨#[123]⟩)),(di 8),(di 0),(di 0),(di 1),(.lit (.string ⟨#[110]⟩)),(di 10),(di 0),(di 0),(di 5),(.lit (.string ⟨#[61]⟩)),(di 12),(di 0),(di 0),(di 1),(.lit (.string ⟨#[110]⟩)),(di 14),(di 0),(di 0),(di 5),(.lit (.string ⟨#[43]⟩)),(di 16),(di 0),(di 0),(di 4),(.lit (.string ⟨#[49]⟩)),(di 18),(di 1),(di 0),(di 5),(.lit (.string ⟨#[59]⟩)),(di 19),(di 0),(di 0),(di 2),qzv,(di 21),(di 0),(di 0),(di 1),(.lit (.string ⟨#[110]⟩)),(di 24),(di 0),(di 0),(di 5),(.lit (.string ⟨#[62,61]⟩)),(di 26),(di 0),(di 0),(di 4),(.lit (.string ⟨#[51]⟩)),(di 29),(di 3),(di 0),(di 5),(.lit (.string ⟨#[123]⟩)),(di 31),(di 0),(di 0),(di 2),qxv,(di 33),(di 0),(di 0),(di 4),(.lit (.string ⟨#[49]⟩)),(di 40),(di 1),(di 0),(di 5),(.lit (.string ⟨#[44]⟩)),(di 41),(di 0),(di 0),(di 1),(.lit (.string ⟨#[110]⟩)),(di 43),(di 0),(di 0),(di 5),(.lit (.string ⟨#[59]⟩)),(di 44),(di 0),(di 0),(di 1),(.lit (.string ⟨#[110]⟩)),(di 46),(di 0),(di 0),(di 5),(.lit (.string ⟨#[61]⟩)),(di 48),(di 0),(di 0),(di 4),(.lit (.string ⟨#[48]⟩)),(di 50),(di 0),(di 0),(di 5),(.lit (.string ⟨#[59]⟩)),(di 51),(di 0),(di 0),(di 5),(.lit (.string ⟨#[125]⟩)),(di 53),(di 0),(di 0),(di 5),(.lit (.string ⟨#[125]⟩)),(di 55),(di 0),(di 0),(di 0),(.lit (.string ⟨#[]⟩)),(di 56),(di 0),(di 0)] 26 5 2)
def qgn:Ob := .map [((.string ⟨#[111,110]⟩),(vi 2)),((.string ⟨#[97,99,116]⟩),(vi 2)),((.string ⟨#[116,105,99,107]⟩),(vi 2)),((.string ⟨#[105,102]⟩),(vi 2)),((.string ⟨#[101,108,115,101]⟩),(vi 2)),((.string ⟨#[119,104,105,108,101]⟩),(vi 2)),((.string ⟨#[101,102,102,101,99,116]⟩),(vi 2)),((.string ⟨#[115,116,111,112]⟩),(vi 2)),((.string ⟨#[116,114,117,101]⟩),(vi 2)),((.string ⟨#[102,97,108,115,101]⟩),(vi 2)),((.string ⟨#[115,101,108,102]⟩),(vi 2)),((.string ⟨#[111,116,104,101,114]⟩),(vi 2)),((.string ⟨#[120]⟩),(vi 3)),((.string ⟨#[121]⟩),(vi 3)),((.string ⟨#[118,120]⟩),(vi 3)),((.string ⟨#[118,121]⟩),(vi 3)),((.string ⟨#[97]⟩),(vi 3)),((.string ⟨#[98]⟩),(vi 3)),((.string ⟨#[104,105,116]⟩),(vi 3)),((.string ⟨#[115,116,105,108,108]⟩),(vi 3))]
def qsw:D:=(.sl [(di 8),(di 0),(.lit (.string ⟨#[]⟩)),(.lit (.slice none 0 0))] 1 true)
def qxw:D:=(.sl [(di 5),(di 0),(.lit (.string ⟨#[]⟩)),(.sl [(di 8),(di 1),(.lit (.string ⟨#[]⟩)),(.lit (.slice none 0 0)),(di 10),(di 0),(.lit (.string ⟨#[110]⟩)),(.lit (.slice none 0 0))] 2 true),(di 1),(di 0),(.lit (.string ⟨#[110]⟩)),qsw] 2 false)
def qxx:D:=(.sl [(di 1),(di 0),(.lit (.string ⟨#[110]⟩)),(.sl [(di 14),(di 0),(.lit (.string ⟨#[43]⟩)),(.sl [(di 10),(di 0),(.lit (.string ⟨#[110]⟩)),(.lit (.slice none 0 0)),(di 8),(di 1),(.lit (.string ⟨#[]⟩)),(.lit (.slice none 0 0))] 2 true)] 1 true),(di 3),(di 0),(.lit (.string ⟨#[]⟩)),(.sl [(di 14),(di 0),(.lit (.string ⟨#[62,61]⟩)),(.sl [(di 10),(di 0),(.lit (.string ⟨#[110]⟩)),(.lit (.slice none 0 0)),(di 8),(di 3),(.lit (.string ⟨#[]⟩)),(.lit (.slice none 0 0))] 2 true),(di 7),(di 0),(.lit (.string ⟨#[]⟩)),qxw,(di 7),(di 0),(.lit (.string ⟨#[]⟩)),(.lit (.slice none 0 0))] 3 true)] 2 false)
def qq5:V:=(.dat (.agg [(di 0),(di 0),(.lit (.string ⟨#[]⟩)),(.lit (.slice none 0 0)),(di 7),(di 0),(.lit (.string ⟨#[]⟩)),qxx,(di 0),(di 0),(.lit (.string ⟨#[]⟩)),(.lit (.slice none 0 0))]))
def qxy:V:=(.tup [(.dat (.agg [(.sl (ds [2,0,1,1,9,0,3,0,1,3,2,0,15,0,19,14,1,1,2,0,20,0,1,0,3,0,18,14,21,0]) 15 false),(di (-1)),(di 0),(di (-1))])),(vi 0)])
def qha:V:=(.dat (.lit (.string ⟨#[111,110,32,97,99,116,32,123,32,118,120,91,115,101,108,102,93,32,61,32,118,120,91,115,101,108,102,93,32,43,32,49,48,48,32,42,32,111,116,104,101,114,59,32,101,102,102,101,99,116,32,50,44,32,115,101,108,102,59,32,125,32,111,110,32,104,105,116,32,123,32,97,91,115,101,108,102,93,32,61,32,97,91,115,101,108,102,93,32,43,32,49,59,32,101,102,102,101,99,116,32,51,44,32,111,116,104,101,114,59,32,125]⟩)))
def qxz:D:=(.lit (.string ⟨#[97,99,116]⟩))
def qkm:D:=(.lit (.string ⟨#[118,120]⟩))
def qes:D:=(.lit (.string ⟨#[115,101,108,102]⟩))
def qxA:D:=(.lit (.string ⟨#[49,48,48]⟩))
def qmU:D:=(.lit (.string ⟨#[111,116,104,101,114]⟩))
def qsx:D:=(.lit (.string ⟨#[104,105,116]⟩))
def qlW:V:=(.gsl [(di 2),qvt,(di 0),(di 0),(di 0),(di 2),qxz,(di 3),(di 0),(di 0),(di 5),(.lit (.string ⟨#[123]⟩)),(di 7),(di 0),(di 0),(di 3),qkm,(di 9),(di 0),(di 0),(di 5),(.lit (.string ⟨#[91]⟩)),(di 11),(di 0),(di 0),(di 2),qes,(di 12),(di 0),(di 0),(di 5),(.lit (.string ⟨#[93]⟩)),(di 16),(di 0),(di 0),(di 5),(.lit (.string ⟨#[61]⟩)),(di 18),(di 0),(di 0),(di 3),qkm,(di 20),(di 0),(di 0),(di 5),(.lit (.string ⟨#[91]⟩)),(di 22),(di 0),(di 0),(di 2),qes,(di 23),(di 0),(di 0),(di 5),(.lit (.string ⟨#[93]⟩)),(di 27),(di 0),(di 0),(di 5),(.lit (.string ⟨#[43]⟩)),(di 29),(di 0),(di 0),(di 4),qxA,(di 31),(di 100),(di 0),(di 5),(.lit (.string ⟨#[42]⟩)),(di 35),(di 0),(di 0),(di 2),qmU,(di 37),(di 0),(di 0),(di 5),(.lit (.string ⟨#[59]⟩)),(di 42),(di 0),(di 0),(di 2),qxv,(di 44),(di 0),(di 0),(di 4),(.lit (.string ⟨#[50]⟩)),(di 51),(di 2),(di 0),(di 5),(.lit (.string ⟨#[44]⟩)),(di 52),(di 0),(di 0),(di 2),qes,(di 54),(di 0),(di 0),(di 5),(.lit (.string ⟨#[59]⟩)),(di 58),(di 0),(di 0),(di 5),(.lit (.string ⟨#[125]⟩)),(di 60),(di 0),(di 0),(di 2),qvt,(di 62),(di 0),(di 0),(di 3),qsx,(di 65),(di 0),(di 0),(di 5),(.lit (.string ⟨#[123]⟩)),(di 69),(di 0),(di 0),(di 3),(.lit (.string ⟨#[97]⟩)),(di 71),(di 0),(di 0),(di 5),(.lit (.string ⟨#[91]⟩)),(di 72),(di 0),(di 0),(di 2),qes,(di 73),(di 0),(di 0),(di 5),(.lit (.string ⟨#[93]⟩)),(di 77),(di 0),(di 0),(di 5),(.lit (.string ⟨#[61]⟩)),(di 79),(di 0),(di 0),(di 3),(.lit (.string ⟨#[97]⟩)),(di 81),(di 0),(di 0),(di 5),(.lit (.string ⟨#[91]⟩)),(di 82),(di 0),(di 0),(di 2),qes,(di 83),(di 0),(di 0),(di 5),(.lit (.string ⟨#[93]⟩)),(di 87),(di 0),(di 0),(di 5),(.lit (.string ⟨#[43]⟩)),(di 89),(di 0),(di 0),(di 4),(.lit (.string ⟨#[49]⟩)),(di 91),(di 1),(di 0),(di 5),(.lit (.string ⟨#[59]⟩)),(di 92),(di 0),(di 0),(di 2),qxv,(di 94),(di 0),(di 0),(di 4),(.lit (.string ⟨#[51]⟩)),(di 101),(di 3),(di 0),(di 5),(.lit (.string ⟨#[44]⟩)),(di 102),(di 0),(di 0),(di 2),qmU,(di 104),(di 0),(di 0),(di 5),(.lit (.string ⟨#[59]⟩)),(di 109),(di 0),(di 0),(di 5),(.lit (.string ⟨#[125]⟩)),(di 111),(di 0),(di 0),(di 0),(.lit (.string ⟨#[]⟩)),(di 112),(di 0),(di 0)] 45 5 2)
def qq6:D:=(.sl [(di 12),(di 0),qes,(.lit (.slice none 0 0))] 1 true)
def qxB:D:=(.sl [(di 11),(di 0),qkm,qq6,(di 14),(di 0),(.lit (.string ⟨#[42]⟩)),(.sl [(di 8),(di 100),(.lit (.string ⟨#[]⟩)),(.lit (.slice none 0 0)),(di 12),(di 0),qmU,(.lit (.slice none 0 0))] 2 true)] 2 true)
def qxC:D:=(.sl [(di 2),(di 0),qkm,(.sl [(di 12),(di 0),qes,(.lit (.slice none 0 0)),(di 14),(di 0),(.lit (.string ⟨#[43]⟩)),qxB] 2 true),(di 5),(di 0),(.lit (.string ⟨#[]⟩)),(.sl [(di 8),(di 2),(.lit (.string ⟨#[]⟩)),(.lit (.slice none 0 0)),(di 12),(di 0),qes,(.lit (.slice none 0 0))] 2 true)] 2 false)
def qxD:D:=(.sl [(di 12),(di 0),qes,(.lit (.slice none 0 0)),(di 14),(di 0),(.lit (.string ⟨#[43]⟩)),(.sl [(di 11),(di 0),(.lit (.string ⟨#[97]⟩)),qq6,(di 8),(di 1),(.lit (.string ⟨#[]⟩)),(.lit (.slice none 0 0))] 2 true)] 2 true)
def qxE:D:=(.sl [(di 2),(di 0),(.lit (.string ⟨#[97]⟩)),qxD,(di 5),(di 0),(.lit (.string ⟨#[]⟩)),(.sl [(di 8),(di 3),(.lit (.string ⟨#[]⟩)),(.lit (.slice none 0 0)),(di 12),(di 0),qmU,(.lit (.slice none 0 0))] 2 true)] 2 false)
def qq7:V:=(.dat (.agg [(di 7),(di 0),(.lit (.string ⟨#[]⟩)),qxC,(di 0),(di 0),(.lit (.string ⟨#[]⟩)),(.lit (.slice none 0 0)),(di 7),(di 0),(.lit (.string ⟨#[]⟩)),qxE]))
def qxF:V:=(.tup [(.dat (.agg [(.sl (ds [6,0,6,0,4,2,1,100,7,0,11,0,9,0,5,2,1,2,6,0,20,0,21,0,6,0,6,0,4,4,1,1,9,0,5,4,1,3,7,0,20,0,21,0]) 22 false),(di 0),(di (-1)),(di 12)])),(vi 0)])
def qgO:V:=(.dat (.lit (.string ⟨#[111,110,32,104,105,116,32,123,32,105,102,32,104,105,116,91,111,116,104,101,114,93,32,61,61,32,115,101,108,102,32,43,32,49,32,38,38,32,97,91,115,101,108,102,93,32,60,32,97,91,111,116,104,101,114,93,32,123,32,118,120,91,115,101,108,102,93,32,61,32,45,118,120,91,115,101,108,102,93,59,32,98,91,115,101,108,102,93,32,61,32,116,105,99,107,59,32,125,32,101,108,115,101,32,123,32,115,116,111,112,59,32,125,32,101,102,102,101,99,116,32,52,44,32,97,91,115,101,108,102,93,59,32,125]⟩)))
def qkn:V:=(.gsl [(di 2),qvt,(di 0),(di 0),(di 0),(di 3),qsx,(di 3),(di 0),(di 0),(di 5),(.lit (.string ⟨#[123]⟩)),(di 7),(di 0),(di 0),(di 2),qzv,(di 9),(di 0),(di 0),(di 3),qsx,(di 12),(di 0),(di 0),(di 5),(.lit (.string ⟨#[91]⟩)),(di 15),(di 0),(di 0),(di 2),qmU,(di 16),(di 0),(di 0),(di 5),(.lit (.string ⟨#[93]⟩)),(di 21),(di 0),(di 0),(di 5),(.lit (.string ⟨#[61,61]⟩)),(di 23),(di 0),(di 0),(di 2),qes,(di 26),(di 0),(di 0),(di 5),(.lit (.string ⟨#[43]⟩)),(di 31),(di 0),(di 0),(di 4),(.lit (.string ⟨#[49]⟩)),(di 33),(di 1),(di 0),(di 5),(.lit (.string ⟨#[38,38]⟩)),(di 35),(di 0),(di 0),(di 3),(.lit (.string ⟨#[97]⟩)),(di 38),(di 0),(di 0),(di 5),(.lit (.string ⟨#[91]⟩)),(di 39),(di 0),(di 0),(di 2),qes,(di 40),(di 0),(di 0),(di 5),(.lit (.string ⟨#[93]⟩)),(di 44),(di 0),(di 0),(di 5),(.lit (.string ⟨#[60]⟩)),(di 46),(di 0),(di 0),(di 3),(.lit (.string ⟨#[97]⟩)),(di 48),(di 0),(di 0),(di 5),(.lit (.string ⟨#[91]⟩)),(di 49),(di 0),(di 0),(di 2),qmU,(di 50),(di 0),(di 0),(di 5),(.lit (.string ⟨#[93]⟩)),(di 55),(di 0),(di 0),(di 5),(.lit (.string ⟨#[123]⟩)),(di 57),(di 0),(di 0),(di 3),qkm,(di 59),(di 0),(di 0),(di 5),(.lit (.string ⟨#[91]⟩)),(di 61),(di 0),(di 0),(di 2),qes,(di 62),(di 0),(di 0),(di 5),(.lit (.string ⟨#[93]⟩)),(di 66),(di 0),(di 0),(di 5),(.lit (.string ⟨#[61]⟩)),(di 68),(di 0),(di 0),(di 5),(.lit (.string ⟨#[45]⟩)),(di 70),(di 0),(di 0),(di 3),qkm,(di 71),(di 0),(di 0),(di 5),(.lit (.string ⟨#[91]⟩)),(di 73),(di 0),(di 0),(di 2),qes,(di 74),(di 0),(di 0),(di 5),(.lit (.string ⟨#[93]⟩)),(di 78),(di 0),(di 0),(di 5),(.lit (.string ⟨#[59]⟩)),(di 79),(di 0),(di 0),(di 3),(.lit (.string ⟨#[98]⟩)),(di 81),(di 0),(di 0),(di 5),(.lit (.string ⟨#[91]⟩)),(di 82),(di 0),(di 0),(di 2),qes,(di 83),(di 0),(di 0),(di 5),(.lit (.string ⟨#[93]⟩)),(di 87),(di 0),(di 0),(di 5),(.lit (.string ⟨#[61]⟩)),(di 89),(di 0),(di 0),(di 2),qyo,(di 91),(di 0),(di 0),(di 5),(.lit (.string ⟨#[59]⟩)),(di 95),(di 0),(di 0),(di 5),(.lit (.string ⟨#[125]⟩)),(di 97),(di 0),(di 0),(di 2),(.lit (.string ⟨#[101,108,115,101]⟩)),(di 99),(di 0),(di 0),(di 5),(.lit (.string ⟨#[123]⟩)),(di 104),(di 0),(di 0),(di 2),(.lit (.string ⟨#[115,116,111,112]⟩)),(di 106),(di 0),(di 0),(di 5),(.lit (.string ⟨#[59]⟩)),(di 110),(di 0),(di 0),(di 5),(.lit (.string ⟨#[125]⟩)),(di 112),(di 0),(di 0),(di 2),qxv,(di 114),(di 0),(di 0),(di 4),(.lit (.string ⟨#[52]⟩)),(di 121),(di 4),(di 0),(di 5),(.lit (.string ⟨#[44]⟩)),(di 122),(di 0),(di 0),(di 3),(.lit (.string ⟨#[97]⟩)),(di 124),(di 0),(di 0),(di 5),(.lit (.string ⟨#[91]⟩)),(di 125),(di 0),(di 0),(di 2),qes,(di 126),(di 0),(di 0),(di 5),(.lit (.string ⟨#[93]⟩)),(di 130),(di 0),(di 0),(di 5),(.lit (.string ⟨#[59]⟩)),(di 131),(di 0),(di 0),(di 5),(.lit (.string ⟨#[125]⟩)),(di 133),(di 0),(di 0),(di 0),(.lit (.string ⟨#[]⟩)),(di 134),(di 0),(di 0)] 57 5 2)
def qxG:D:=(.sl [(di 12),(di 0),qmU,(.lit (.slice none 0 0))] 1 true)
def qxH:D:=(.sl [(di 11),(di 0),qsx,qxG,(di 14),(di 0),(.lit (.string ⟨#[43]⟩)),(.sl [(di 12),(di 0),qes,(.lit (.slice none 0 0)),(di 8),(di 1),(.lit (.string ⟨#[]⟩)),(.lit (.slice none 0 0))] 2 true)] 2 true)
def qxI:D:=(.sl [(di 11),(di 0),(.lit (.string ⟨#[97]⟩)),qq6,(di 11),(di 0),(.lit (.string ⟨#[97]⟩)),qxG] 2 true)
def qxJ:S:=[.cells [qgO,(.mp 1),qkn,(vi 22),(vi 0),(vi 12)],qgn,.tip 285]
def qxK:D:=(.sl [(di 12),(di 0),qes,(.lit (.slice none 0 0)),(di 13),(di 0),(.lit (.string ⟨#[45]⟩)),(.sl [(di 11),(di 0),qkm,qq6] 1 true)] 2 true)
def qxL:D:=(.sl [(di 2),(di 0),qkm,qxK,(di 2),(di 0),(.lit (.string ⟨#[98]⟩)),(.sl [(di 12),(di 0),qes,(.lit (.slice none 0 0)),(di 12),(di 0),qyo,(.lit (.slice none 0 0))] 2 true)] 2 false)
def qxM:D:=(.sl [(di 8),(di 4),(.lit (.string ⟨#[]⟩)),(.lit (.slice none 0 0)),(di 11),(di 0),(.lit (.string ⟨#[97]⟩)),qq6] 2 true)
def qoJ:V:=(.dat (.agg [(di 0),(di 0),(.lit (.string ⟨#[]⟩)),(.lit (.slice none 0 0)),(di 0),(di 0),(.lit (.string ⟨#[]⟩)),(.lit (.slice none 0 0)),(di 7),(di 0),(.lit (.string ⟨#[]⟩)),(.sl [(di 3),(di 0),(.lit (.string ⟨#[]⟩)),(.sl [(di 14),(di 0),(.lit (.string ⟨#[38,38]⟩)),(.sl [(di 14),(di 0),(.lit (.string ⟨#[61,61]⟩)),qxH,(di 14),(di 0),(.lit (.string ⟨#[60]⟩)),qxI] 2 true),(di 7),(di 0),(.lit (.string ⟨#[]⟩)),qxL,(di 7),(di 0),(.lit (.string ⟨#[]⟩)),(.sl [(di 6),(di 0),(.lit (.string ⟨#[]⟩)),(.lit (.slice none 0 0))] 1 false)] 3 true),(di 5),(di 0),(.lit (.string ⟨#[]⟩)),qxM] 2 false)]))
def qva:V:=(.tup [(.dat (.agg [(.sl (ds [7,0,4,6,6,0,1,1,9,0,16,0,19,13,6,0,4,4,7,0,4,4,14,0,18,14,1,0,19,24,6,0,6,0,4,2,13,0,5,2,6,0,8,0,5,5,18,25,21,0,1,4,6,0,4,4,20,0,21,0]) 30 false),(di (-1)),(di (-1)),(di 0)])),(vi 0)])
def qhb:V:=(.dat (.lit (.string ⟨#[111,110,32,116,105,99,107,32,123,32,105,32,61,32,48,59,32,119,104,105,108,101,32,105,32,60,32,52,32,123,32,98,91,105,93,32,61,32,98,91,105,93,32,43,32,115,116,105,108,108,91,105,93,59,32,105,32,61,32,105,32,43,32,49,59,32,125,32,115,32,61,32,115,32,43,32,120,91,48,93,32,47,32,49,48,48,59,32,101,102,102,101,99,116,32,53,44,32,115,59,32,125,32,111,110,32,97,99,116,32,123,32,115,32,61,32,48,59,32,125]⟩)))
def qxN:D:=(.lit (.string ⟨#[115,116,105,108,108]⟩))
def qlX:List D:=[(di 2),qvt,(di 0),(di 0),(di 0),(di 2),qyo,(di 3),(di 0),(di 0),(di 5),(.lit (.string ⟨#[123]⟩)),(di 8),(di 0),(di 0),(di 1),(.lit (.string ⟨#[105]⟩)),(di 10),(di 0),(di 0),(di 5),(.lit (.string ⟨#[61]⟩)),(di 12),(di 0),(di 0),(di 4),(.lit (.string ⟨#[48]⟩)),(di 14),(di 0),(di 0),(di 5),(.lit (.string ⟨#[59]⟩)),(di 15),(di 0),(di 0),(di 2),(.lit (.string ⟨#[119,104,105,108,101]⟩)),(di 17),(di 0),(di 0),(di 1),(.lit (.string ⟨#[105]⟩)),(di 23),(di 0),(di 0),(di 5),(.lit (.string ⟨#[60]⟩)),(di 25),(di 0),(di 0),(di 4),(.lit (.string ⟨#[52]⟩)),(di 27),(di 4),(di 0),(di 5),(.lit (.string ⟨#[123]⟩)),(di 29),(di 0),(di 0),(di 3),(.lit (.string ⟨#[98]⟩)),(di 31),(di 0),(di 0),(di 5),(.lit (.string ⟨#[91]⟩)),(di 32),(di 0),(di 0),(di 1),(.lit (.string ⟨#[105]⟩)),(di 33),(di 0),(di 0),(di 5),(.lit (.string ⟨#[93]⟩)),(di 34),(di 0),(di 0),(di 5),(.lit (.string ⟨#[61]⟩)),(di 36),(di 0),(di 0),(di 3),(.lit (.string ⟨#[98]⟩)),(di 38),(di 0),(di 0),(di 5),(.lit (.string ⟨#[91]⟩)),(di 39),(di 0),(di 0),(di 1),(.lit (.string ⟨#[105]⟩)),(di 40),(di 0),(di 0),(di 5),(.lit (.string ⟨#[93]⟩)),(di 41),(di 0),(di 0),(di 5),(.lit (.string ⟨#[43]⟩)),(di 43),(di 0),(di 0),(di 3),qxN,(di 45),(di 0),(di 0),(di 5),(.lit (.string ⟨#[91]⟩)),(di 50),(di 0),(di 0),(di 1),(.lit (.string ⟨#[105]⟩)),(di 51),(di 0),(di 0),(di 5),(.lit (.string ⟨#[93]⟩)),(di 52),(di 0),(di 0),(di 5),(.lit (.string ⟨#[59]⟩)),(di 53),(di 0),(di 0),(di 1),(.lit (.string ⟨#[105]⟩)),(di 55),(di 0),(di 0),(di 5),(.lit (.string ⟨#[61]⟩)),(di 57),(di 0),(di 0),(di 1),(.lit (.string ⟨#[105]⟩)),(di 59),(di 0),(di 0),(di 5),(.lit (.string ⟨#[43]⟩)),(di 61),(di 0),(di 0),(di 4),(.lit (.string ⟨#[49]⟩)),(di 63),(di 1),(di 0),(di 5),(.lit (.string ⟨#[59]⟩)),(di 64),(di 0),(di 0),(di 5),(.lit (.string ⟨#[125]⟩)),(di 66),(di 0),(di 0),(di 1),(.lit (.string ⟨#[115]⟩)),(di 68),(di 0),(di 0),(di 5),(.lit (.string ⟨#[61]⟩)),(di 70),(di 0),(di 0),(di 1),(.lit (.string ⟨#[115]⟩)),(di 72),(di 0),(di 0),(di 5),(.lit (.string ⟨#[43]⟩)),(di 74),(di 0),(di 0),(di 3),(.lit (.string ⟨#[120]⟩)),(di 76),(di 0),(di 0),(di 5),(.lit (.string ⟨#[91]⟩)),(di 77),(di 0),(di 0),(di 4),(.lit (.string ⟨#[48]⟩)),(di 78),(di 0),(di 0),(di 5),(.lit (.string ⟨#[93]⟩)),(di 79),(di 0),(di 0),(di 5),(.lit (.string ⟨#[47]⟩)),(di 81),(di 0),(di 0),(di 4),qxA,(di 83),(di 100),(di 0),(di 5),(.lit (.string ⟨#[59]⟩)),(di 86),(di 0),(di 0),(di 2),qxv,(di 88),(di 0),(di 0),(di 4),(.lit (.string ⟨#[53]⟩)),(di 95),(di 5),(di 0),(di 5),(.lit (.string ⟨#[44]⟩)),(di 96),(di 0),(di 0),(di 1),(.lit (.string ⟨#[115]⟩)),(di 98),(di 0),(di 0),(di 5),(.lit (.string ⟨#[59]⟩)),(di 99),(di 0),(di 0),(di 5),(.lit (.string ⟨#[125]⟩)),(di 101),(di 0),(di 0),(di 2),qvt,(di 103),(di 0),(di 0),(di 2),qxz,(di 106),(di 0),(di 0),(di 5),(.lit (.string ⟨#[123]⟩)),(di 110),(di 0),(di 0),(di 1),(.lit (.string ⟨#[115]⟩)),(di 112),(di 0),(di 0),(di 5),(.lit (.string ⟨#[61]⟩)),(di 114),(di 0),(di 0),(di 4),(.lit (.string ⟨#[48]⟩)),(di 116),(di 0),(di 0),(di 5),(.lit (.string ⟨#[59]⟩)),(di 117),(di 0),(di 0),(di 5),(.lit (.string ⟨#[125]⟩)),(di 119),(di 0),(di 0),(di 0),(.lit (.string ⟨#[]⟩)),(di 120),(di 0),(di 0)]
def qxO:D:=(.sl [(di 10),(di 0),(.lit (.string ⟨#[105]⟩)),(.lit (.slice none 0 0))] 1 true)
def qxP:D:=(.sl [(di 11),(di 0),(.lit (.string ⟨#[98]⟩)),qxO,(di 11),(di 0),qxN,qxO] 2 true)
def qxQ:D:=(.sl [(di 2),(di 0),(.lit (.string ⟨#[98]⟩)),(.sl [(di 10),(di 0),(.lit (.string ⟨#[105]⟩)),(.lit (.slice none 0 0)),(di 14),(di 0),(.lit (.string ⟨#[43]⟩)),qxP] 2 true),(di 1),(di 0),(.lit (.string ⟨#[105]⟩)),(.sl [(di 14),(di 0),(.lit (.string ⟨#[43]⟩)),(.sl [(di 10),(di 0),(.lit (.string ⟨#[105]⟩)),(.lit (.slice none 0 0)),(di 8),(di 1),(.lit (.string ⟨#[]⟩)),(.lit (.slice none 0 0))] 2 true)] 1 true)] 2 false)
def qxR:List D:=[(di 14),(di 0),(.lit (.string ⟨#[43]⟩)),(.sl [(di 10),(di 0),(.lit (.string ⟨#[115]⟩)),(.lit (.slice none 0 0)),(di 14),(di 0),(.lit (.string ⟨#[47]⟩)),(.sl [(di 11),(di 0),(.lit (.string ⟨#[120]⟩)),qsw,(di 8),(di 100),(.lit (.string ⟨#[]⟩)),(.lit (.slice none 0 0))] 2 true)] 2 true)]
def qxS:D:=(.sl [(di 1),(di 0),(.lit (.string ⟨#[105]⟩)),qsw,(di 4),(di 0),(.lit (.string ⟨#[]⟩)),(.sl [(di 14),(di 0),(.lit (.string ⟨#[60]⟩)),(.sl [(di 10),(di 0),(.lit (.string ⟨#[105]⟩)),(.lit (.slice none 0 0)),(di 8),(di 4),(.lit (.string ⟨#[]⟩)),(.lit (.slice none 0 0))] 2 true),(di 7),(di 0),(.lit (.string ⟨#[]⟩)),qxQ] 2 true),(di 1),(di 0),(.lit (.string ⟨#[115]⟩)),(.sl qxR 1 true),(di 5),(di 0),(.lit (.string ⟨#[]⟩)),(.sl [(di 8),(di 5),(.lit (.string ⟨#[]⟩)),(.lit (.slice none 0 0)),(di 10),(di 0),(.lit (.string ⟨#[115]⟩)),(.lit (.slice none 0 0))] 2 true)] 4 false)
def qoK:V:=(.dat (.agg [(di 7),(di 0),(.lit (.string ⟨#[]⟩)),(.sl [(di 1),(di 0),(.lit (.string ⟨#[115]⟩)),qsw] 1 false),(di 7),(di 0),(.lit (.string ⟨#[]⟩)),qxS,(di 0),(di 0),(.lit (.string ⟨#[]⟩)),(.lit (.slice none 0 0))]))
def qvb:V:=(.tup [(.dat (.agg [(.sl (ds [1,0,3,0,21,0,1,0,3,1,2,1,1,4,14,0,19,21,2,1,2,1,4,5,2,1,4,7,9,0,5,5,2,1,1,1,9,0,3,1,18,5,2,0,1,0,4,0,1,100,12,0,9,0,3,0,1,5,2,0,20,0,21,0]) 32 false),(di 0),(di 3),(di (-1))])),(vi 0)])
def xe0:Kn:=⟨324,[qza,(vi 0),(.fn 325 [] [])],[],(.tup [qyn,(vi 0)]),[]⟩
def xe1:Kn:=⟨326,[qyn,(vi 0),(.fn 327 [] [])],[],(.tup [qyn,(vi 0)]),[]⟩
def xe2:Kn:=⟨328,[qyn,(vi 0),(.fn 131 [] [])],[],qzu,[]⟩
def xe3:Kn:=⟨322,[qza],[],qzu,[]⟩
def xe4:Kn:=⟨256,[(.ptr 0 0),(vi 2)],[.cells [qs9,(.mp 1),qyp,(vi 13),(vi 0),(vi 12)],qgn,.tip 130],(.dat (.agg [(di 7),(di 0),(.lit (.string ⟨#[]⟩)),qxw])),[.cells [qs9,(.mp 1),qyp,(vi 24),(vi 0),(vi 12)],qgn,.tip 130]⟩
def xe5:Kn:=⟨256,[(.ptr 0 0),(vi 1)],[.cells [qs9,(.mp 1),qyp,(vi 2),(vi 0),(vi 12)],qgn,.tip 130],(.dat (.agg [(di 7),(di 0),(.lit (.string ⟨#[]⟩)),qxx])),[.cells [qs9,(.mp 1),qyp,(vi 25),(vi 0),(vi 12)],qgn,.tip 130]⟩
def xe6:Kn:=⟨228,[qs9],[],(.tup [qq5,(vi 0),(vi 0)]),[]⟩
def xe7:Kn:=⟨324,[qs9,(vi 0),(.fn 325 [] [])],[],(.tup [qq5,(vi 0)]),[]⟩
def xe8:Kn:=⟨326,[qq5,(vi 0),(.fn 327 [] [])],[],(.tup [qq5,(vi 0)]),[]⟩
def xe9:Kn:=⟨328,[qq5,(vi 0),(.fn 131 [] [])],[],qxy,[]⟩
def xe10:Kn:=⟨322,[qs9],[],qxy,[]⟩
def xe11:Kn:=⟨292,[(.ptr 0 0),(vi 1)],[.cells [qha,(.mp 1),qlW,(vi 8),(vi 0),(vi 12)],qgn,.tip 225],(.dat (.agg [(di 14),(di 0),(.lit (.string ⟨#[43]⟩)),qxB])),[.cells [qha,(.mp 1),qlW,(vi 16),(vi 0),(vi 12)],qgn,.tip 225]⟩
def xe12:Kn:=⟨256,[(.ptr 0 0),(vi 1)],[.cells [qha,(.mp 1),qlW,(vi 2),(vi 0),(vi 12)],qgn,.tip 225],(.dat (.agg [(di 7),(di 0),(.lit (.string ⟨#[]⟩)),qxC])),[.cells [qha,(.mp 1),qlW,(vi 23),(vi 0),(vi 12)],qgn,.tip 225]⟩
def xe13:Kn:=⟨271,[(.ptr 0 0),(vi 1)],[.cells [qha,(.mp 1),qlW,(vi 26),(vi 0),(vi 12)],qgn,.tip 225],(.dat (.agg [(di 2),(di 0),(.lit (.string ⟨#[97]⟩)),qxD])),[.cells [qha,(.mp 1),qlW,(vi 38),(vi 0),(vi 12)],qgn,.tip 225]⟩
def xe14:Kn:=⟨256,[(.ptr 0 0),(vi 1)],[.cells [qha,(.mp 1),qlW,(vi 25),(vi 0),(vi 12)],qgn,.tip 225],(.dat (.agg [(di 7),(di 0),(.lit (.string ⟨#[]⟩)),qxE])),[.cells [qha,(.mp 1),qlW,(vi 44),(vi 0),(vi 12)],qgn,.tip 225]⟩
def xe15:Kn:=⟨228,[qha],[],(.tup [qq7,(vi 0),(vi 0)]),[]⟩
def xe16:Kn:=⟨324,[qha,(vi 0),(.fn 325 [] [])],[],(.tup [qq7,(vi 0)]),[]⟩
def xe17:Kn:=⟨326,[qq7,(vi 0),(.fn 327 [] [])],[],(.tup [qq7,(vi 0)]),[]⟩
def xe18:Kn:=⟨328,[qq7,(vi 0),(.fn 131 [] [])],[],qxF,[]⟩
def xe19:Kn:=⟨322,[qha],[],qxF,[]⟩
def xe20:Kn:=⟨292,[(.ptr 0 0),(vi 1)],[.cells [qgO,(.mp 1),qkn,(vi 4),(vi 0),(vi 12)],qgn,.tip 285],(.dat (.agg [(di 14),(di 0),(.lit (.string ⟨#[61,61]⟩)),qxH])),[.cells [qgO,(.mp 1),qkn,(vi 12),(vi 0),(vi 12)],qgn,.tip 285]⟩
def xe21:Kn:=⟨292,[(.ptr 0 0),(vi 1)],[.cells [qgO,(.mp 1),qkn,(vi 13),(vi 0),(vi 12)],qgn,.tip 285],(.dat (.agg [(di 14),(di 0),(.lit (.string ⟨#[60]⟩)),qxI])),qxJ⟩
def xe22:Kn:=⟨271,[(.ptr 0 0),(vi 2)],[.cells [qgO,(.mp 1),qkn,(vi 23),(vi 0),(vi 12)],qgn,.tip 285],(.dat (.agg [(di 2),(di 0),qkm,qxK])),[.cells [qgO,(.mp 1),qkn,(vi 34),(vi 0),(vi 12)],qgn,.tip 285]⟩
def xe23:Kn:=⟨256,[(.ptr 0 0),(vi 2)],qxJ,(.dat (.agg [(di 7),(di 0),(.lit (.string ⟨#[]⟩)),qxL])),[.cells [qgO,(.mp 1),qkn,(vi 42),(vi 0),(vi 12)],qgn,.tip 285]⟩
def xe24:Kn:=⟨271,[(.ptr 0 0),(vi 1)],[.cells [qgO,(.mp 1),qkn,(vi 47),(vi 0),(vi 12)],qgn,.tip 285],(.dat (.agg [(di 5),(di 0),(.lit (.string ⟨#[]⟩)),qxM])),[.cells [qgO,(.mp 1),qkn,(vi 55),(vi 0),(vi 12)],qgn,.tip 285]⟩
def xe25:Kn:=⟨228,[qgO],[],(.tup [qoJ,(vi 0),(vi 0)]),[]⟩
def xe26:Kn:=⟨324,[qgO,(vi 0),(.fn 325 [] [])],[],(.tup [qoJ,(vi 0)]),[]⟩
def xe27:Kn:=⟨326,[qoJ,(vi 0),(.fn 327 [] [])],[],(.tup [qoJ,(vi 0)]),[]⟩
def xe28:Kn:=⟨131,[qoJ],[],qva,[]⟩
def xe29:Kn:=⟨328,[qoJ,(vi 0),(.fn 131 [] [])],[],qva,[]⟩
def xe30:Kn:=⟨322,[qgO],[],qva,[]⟩
def xe31:Kn:=⟨285,[(.ptr 0 0),(.fn 303 [] [(.ptr 1 0),(.ptr 2 0)]),(.dat (.sl [(.lit (.string ⟨#[43]⟩)),(.lit (.string ⟨#[45]⟩))] 2 true))],[.cells [qhb,(.mp 3),(.gsl qlX 60 5 4),(vi 17),(vi 0),(vi 12)],.cells [(.ptr 0 0)],.cells [(vi 2)],qgn,.tip 300],(.dat (.agg [(di 14),(di 0),(.lit (.string ⟨#[43]⟩)),qxP])),[.cells [qhb,(.mp 3),(.gsl qlX 60 5 4),(vi 26),(vi 0),(vi 12)],.cells [(.ptr 0 0)],.cells [(vi 2)],qgn,.tip 300]⟩
def xe32:Kn:=⟨256,[(.ptr 0 0),(vi 2)],[.cells [qhb,(.mp 1),(.gsl qlX 60 5 2),(vi 11),(vi 0),(vi 12)],qgn,.tip 300],(.dat (.agg [(di 7),(di 0),(.lit (.string ⟨#[]⟩)),qxQ])),[.cells [qhb,(.mp 1),(.gsl qlX 60 5 2),(vi 34),(vi 0),(vi 12)],qgn,.tip 300]⟩
def xe33:Kn:=⟨279,[(.ptr 0 0),(vi 1)],[.cells [qhb,(.mp 1),(.gsl qlX 60 5 2),(vi 36),(vi 0),(vi 12)],qgn,.tip 300],(.dat (.agg qxR)),[.cells [qhb,(.mp 1),(.gsl qlX 60 5 2),(vi 44),(vi 0),(vi 12)],qgn,.tip 300]⟩
def xe34:Kn:=⟨256,[(.ptr 0 0),(vi 1)],[.cells [qhb,(.mp 1),(.gsl qlX 60 5 2),(vi 2),(vi 0),(vi 12)],qgn,.tip 300],(.dat (.agg [(di 7),(di 0),(.lit (.string ⟨#[]⟩)),qxS])),[.cells [qhb,(.mp 1),(.gsl qlX 60 5 2),(vi 51),(vi 0),(vi 12)],qgn,.tip 300]⟩
def xe35:Kn:=⟨228,[qhb],[],(.tup [qoK,(vi 0),(vi 0)]),[]⟩
def xe36:Kn:=⟨324,[qhb,(vi 0),(.fn 325 [] [])],[],(.tup [qoK,(vi 0)]),[]⟩
def xe37:Kn:=⟨326,[qoK,(vi 0),(.fn 327 [] [])],[],(.tup [qoK,(vi 0)]),[]⟩
def xe38:Kn:=⟨131,[qoK],[],qvb,[]⟩
def xe39:Kn:=⟨328,[qoK,(vi 0),(.fn 131 [] [])],[],qvb,[]⟩
def xe40:Kn:=⟨322,[qhb],[],qvb,[]⟩
theorem kn_nil : ∀ k∈([]:List Kn),k.ok prX:=fun k h=>by cases h
theorem kn_cons{k:Kn}{L:List Kn}(h:k.ok prX)(hL : ∀ k∈L,k.ok prX) : ∀ j∈k::L,j.ok prX:=List.forall_mem_cons.2 ⟨h,hL⟩
end Go.Pm
end
section
set_option maxRecDepth 100000
namespace Go.Pm
open F
theorem qwb:xe0.ok prX:=qaK kn_nil 2000 (by kernel_rfl)
theorem qwc:xe1.ok prX:=qaK kn_nil 2000 (by kernel_rfl)
theorem qwd:xe2.ok prX:=qaK kn_nil 2000 (by kernel_rfl)
theorem qwe:xe3.ok prX:=qaK (kn_cons qwb (kn_cons qwc (kn_cons qwd kn_nil))) 2000 (by kernel_rfl)
theorem qwf:xe4.ok prX:=qaK kn_nil 2000 (by kernel_rfl)
theorem qwg:xe5.ok prX:=qaK (kn_cons qwf kn_nil) 2000 (by kernel_rfl)
end Go.Pm
end
section
set_option maxRecDepth 100000
namespace Go.Pm
open F
theorem qxd:xe6.ok prX:=qaK (kn_cons qwg kn_nil) 2000 (by kernel_rfl)
theorem qxe:xe7.ok prX:=qaK (kn_cons qxd kn_nil) 2000 (by kernel_rfl)
theorem qxf:xe8.ok prX:=qaK kn_nil 2000 (by kernel_rfl)
end Go.Pm
end
section
set_option maxRecDepth 100000
namespace Go.Pm
open F
theorem qwx:xe9.ok prX:=qaK kn_nil 2000 (by kernel_rfl)
theorem quj:xe10.ok prX:=qaK (kn_cons qxe (kn_cons qxf (kn_cons qwx kn_nil))) 2000 (by kernel_rfl)
theorem quk:xe11.ok prX:=qaK kn_nil 2000 (by kernel_rfl)
theorem qul:xe12.ok prX:=qaK (kn_cons quk kn_nil) 2000 (by kernel_rfl)
end Go.Pm
end
section
set_option maxRecDepth 100000
namespace Go.Pm
open F
theorem qt8:xe13.ok prX:=qaK kn_nil 2000 (by kernel_rfl)
theorem qt9:xe14.ok prX:=qaK (kn_cons qt8 kn_nil) 2000 (by kernel_rfl)
end Go.Pm
end
section
set_option maxRecDepth 100000
namespace Go.Pm
open F
theorem qtu:xe15.ok prX:=qaK (kn_cons qul (kn_cons qt9 kn_nil)) 2000 (by kernel_rfl)
end Go.Pm
end
