/- What this claim is proved with: no condition. -/
import Derived.Test.YtbnoodjnpooocaaGreatDoorChecked
import Derived.Test.YtbnoodjnpooocaaGreatDoorNw1
set_option linter.unusedVariables false
set_option linter.unusedSimpArgs false
namespace Go.Proofs.YtbnoodjnpooocaaGreatDoor.Ev
open Go
noncomputable def tt:List (Nat × TI):=[(3,⟨Tryz.t3.desc,Tryz.t3.size,Tryz.t3.zero⟩),
 (121,⟨Tryz.t120.desc,Tryz.t121.size,Tryz.t121.zero⟩),
 (135,⟨Tryz.t134.desc,Tryz.t135.size,Tryz.t135.zero⟩),
 (366,⟨Tryz.t365.desc,Tryz.t366.size,Tryz.t366.zero⟩),
 (23,⟨Tryz.t23.desc,Tryz.t23.size,Tryz.t23.zero⟩),
 (76,⟨Tryz.t76.desc,Tryz.t76.size,Tryz.t76.zero⟩),
 (215,⟨Tryz.t214.desc,Tryz.t215.size,Tryz.t215.zero⟩),
 (9,⟨Tryz.t9.desc,Tryz.t9.size,Tryz.t9.zero⟩),
 (104,⟨Tryz.t103.desc,Tryz.t104.size,Tryz.t104.zero⟩),
 (119,⟨Tryz.t3.desc,Tryz.t119.size,Tryz.t119.zero⟩),
 (213,⟨Tryz.t213.desc,Tryz.t213.size,Tryz.t213.zero⟩),
 (29,⟨Tryz.t3.desc,Tryz.t29.size,Tryz.t29.zero⟩),
 (133,⟨Tryz.t133.desc,Tryz.t133.size,Tryz.t133.zero⟩),
 (107,⟨Tryz.t106.desc,Tryz.t107.size,Tryz.t107.zero⟩),
 (278,⟨Tryz.t3.desc,Tryz.t278.size,Tryz.t278.zero⟩),
 (97,⟨Tryz.t96.desc,Tryz.t97.size,Tryz.t97.zero⟩),
 (240,⟨Tryz.t239.desc,Tryz.t240.size,Tryz.t240.zero⟩),
 (446,⟨Tryz.t445.desc,Tryz.t446.size,Tryz.t446.zero⟩),
 (276,⟨Tryz.t275.desc,Tryz.t276.size,Tryz.t276.zero⟩),
 (229,⟨Tryz.t228.desc,Tryz.t229.size,Tryz.t229.zero⟩),
 (94,⟨Tryz.t94.desc,Tryz.t94.size,Tryz.t94.zero⟩),
 (127,⟨Tryz.t126.desc,Tryz.t127.size,Tryz.t127.zero⟩),
 (142,⟨Tryz.t141.desc,Tryz.t142.size,Tryz.t142.zero⟩),
 (22,⟨Tryz.t22.desc,Tryz.t22.size,Tryz.t22.zero⟩),
 (494,⟨Tryz.t493.desc,Tryz.t494.size,Tryz.t494.zero⟩),
 (246,⟨Tryz.t245.desc,Tryz.t246.size,Tryz.t246.zero⟩),
 (166,⟨Tryz.t165.desc,Tryz.t166.size,Tryz.t166.zero⟩),
 (102,⟨Tryz.t102.desc,Tryz.t102.size,Tryz.t102.zero⟩),
 (217,⟨Tryz.t216.desc,Tryz.t217.size,Tryz.t217.zero⟩),
 (105,⟨Tryz.t105.desc,Tryz.t105.size,Tryz.t105.zero⟩),
 (26,⟨Tryz.t25.desc,Tryz.t26.size,Tryz.t26.zero⟩),
 (79,⟨Tryz.t79.desc,Tryz.t79.size,Tryz.t79.zero⟩),
 (109,⟨Tryz.t108.desc,Tryz.t109.size,Tryz.t109.zero⟩),
 (176,⟨Tryz.t176.desc,Tryz.t176.size,Tryz.t176.zero⟩),
 (231,⟨Tryz.t231.desc,Tryz.t231.size,Tryz.t231.zero⟩),
 (198,⟨Tryz.t197.desc,Tryz.t198.size,Tryz.t198.zero⟩),
 (382,⟨Tryz.t381.desc,Tryz.t382.size,Tryz.t382.zero⟩),
 (236,⟨Tryz.t235.desc,Tryz.t236.size,Tryz.t236.zero⟩),
 (442,⟨Tryz.t441.desc,Tryz.t442.size,Tryz.t442.zero⟩),
 (315,⟨Tryz.t314.desc,Tryz.t315.size,Tryz.t315.zero⟩),
 (95,⟨Tryz.t95.desc,Tryz.t95.size,Tryz.t95.zero⟩),
 (221,⟨Tryz.t220.desc,Tryz.t221.size,Tryz.t221.zero⟩),
 (4,⟨Tryz.t4.desc,Tryz.t4.size,Tryz.t4.zero⟩),
 (93,⟨Tryz.t92.desc,Tryz.t93.size,Tryz.t93.zero⟩),
 (65,⟨Tryz.t64.desc,Tryz.t65.size,Tryz.t65.zero⟩),
 (321,⟨Tryz.t320.desc,Tryz.t321.size,Tryz.t321.zero⟩),
 (91,⟨Tryz.t91.desc,Tryz.t91.size,Tryz.t91.zero⟩),
 (101,⟨Tryz.t101.desc,Tryz.t101.size,Tryz.t101.zero⟩),
 (72,⟨Tryz.t71.desc,Tryz.t72.size,Tryz.t72.zero⟩),
 (193,⟨Tryz.t193.desc,Tryz.t193.size,Tryz.t193.zero⟩),
 (70,⟨Tryz.t70.desc,Tryz.t70.size,Tryz.t70.zero⟩),
 (310,⟨Tryz.t310.desc,Tryz.t310.size,Tryz.t310.zero⟩),
 (313,⟨Tryz.t312.desc,Tryz.t313.size,Tryz.t313.zero⟩),
 (157,⟨Tryz.t156.desc,Tryz.t157.size,Tryz.t157.zero⟩),
 (238,⟨Tryz.t238.desc,Tryz.t238.size,Tryz.t238.zero⟩),
 (48,⟨Tryz.t47.desc,Tryz.t48.size,Tryz.t48.zero⟩),
 (5,⟨Tryz.t5.desc,Tryz.t5.size,Tryz.t5.zero⟩),
 (67,⟨Tryz.t66.desc,Tryz.t67.size,Tryz.t67.zero⟩),
 (195,⟨Tryz.t194.desc,Tryz.t195.size,Tryz.t195.zero⟩),
 (274,⟨Tryz.t273.desc,Tryz.t274.size,Tryz.t274.zero⟩),
 (224,⟨Tryz.t224.desc,Tryz.t224.size,Tryz.t224.zero⟩),
 (155,⟨Tryz.t155.desc,Tryz.t155.size,Tryz.t155.zero⟩),
 (60,⟨Tryz.t59.desc,Tryz.t60.size,Tryz.t60.zero⟩),
 (51,⟨Tryz.t51.desc,Tryz.t51.size,Tryz.t51.zero⟩),
 (211,⟨Tryz.t210.desc,Tryz.t211.size,Tryz.t211.zero⟩),
 (301,⟨Tryz.t300.desc,Tryz.t301.size,Tryz.t301.zero⟩),
 (55,⟨Tryz.t54.desc,Tryz.t55.size,Tryz.t55.zero⟩),
 (88,⟨Tryz.t87.desc,Tryz.t88.size,Tryz.t88.zero⟩),
 (386,⟨Tryz.t385.desc,Tryz.t386.size,Tryz.t386.zero⟩),
 (345,⟨Tryz.t344.desc,Tryz.t345.size,Tryz.t345.zero⟩),
 (139,⟨Tryz.t139.desc,Tryz.t139.size,Tryz.t139.zero⟩),
 (41,⟨Tryz.t40.desc,Tryz.t41.size,Tryz.t41.zero⟩),
 (444,⟨Tryz.t444.desc,Tryz.t444.size,Tryz.t444.zero⟩),
 (100,⟨Tryz.t100.desc,Tryz.t100.size,Tryz.t100.zero⟩),
 (52,⟨Tryz.t52.desc,Tryz.t52.size,Tryz.t52.zero⟩),
 (38,⟨Tryz.t37.desc,Tryz.t38.size,Tryz.t38.zero⟩),
 (81,⟨Tryz.t80.desc,Tryz.t81.size,Tryz.t81.zero⟩),
 (99,⟨Tryz.t98.desc,Tryz.t99.size,Tryz.t99.zero⟩),
 (168,⟨Tryz.t167.desc,Tryz.t168.size,Tryz.t168.zero⟩),
 (497,⟨Tryz.t496.desc,Tryz.t497.size,Tryz.t497.zero⟩),
 (243,⟨Tryz.t241.desc,Tryz.t243.size,Tryz.t243.zero⟩),
 (58,⟨Tryz.t58.desc,Tryz.t58.size,Tryz.t58.zero⟩),
 (443,⟨Tryz.t443.desc,Tryz.t443.size,Tryz.t443.zero⟩),
 (452,⟨Tryz.t451.desc,Tryz.t452.size,Tryz.t452.zero⟩),
 (311,⟨Tryz.t311.desc,Tryz.t311.size,Tryz.t311.zero⟩),
 (234,⟨Tryz.t234.desc,Tryz.t234.size,Tryz.t234.zero⟩),
 (456,⟨Tryz.t456.desc,Tryz.t456.size,Tryz.t456.zero⟩),
 (398,⟨Tryz.t397.desc,Tryz.t398.size,Tryz.t398.zero⟩),
 (24,⟨Tryz.t24.desc,Tryz.t24.size,Tryz.t24.zero⟩),
 (46,⟨Tryz.t46.desc,Tryz.t46.size,Tryz.t46.zero⟩),
 (440,⟨Tryz.t440.desc,Tryz.t440.size,Tryz.t440.zero⟩),
 (28,⟨Tryz.t28.desc,Tryz.t28.size,Tryz.t28.zero⟩),
 (78,⟨Tryz.t78.desc,Tryz.t78.size,Tryz.t78.zero⟩),
 (190,⟨Tryz.t190.desc,Tryz.t190.size,Tryz.t190.zero⟩),
 (140,⟨Tryz.t140.desc,Tryz.t140.size,Tryz.t140.zero⟩),
 (180,⟨Tryz.t180.desc,Tryz.t180.size,Tryz.t180.zero⟩),
 (331,⟨Tryz.t331.desc,Tryz.t331.size,Tryz.t331.zero⟩),
 (439,⟨Tryz.t439.desc,Tryz.t439.size,Tryz.t439.zero⟩),
 (242,⟨Tryz.t241.desc,Tryz.t242.size,Tryz.t242.zero⟩),
 (272,⟨Tryz.t3.desc,Tryz.t272.size,Tryz.t272.zero⟩),
 (63,⟨Tryz.t62.desc,Tryz.t63.size,Tryz.t63.zero⟩),
 (75,⟨Tryz.t75.desc,Tryz.t75.size,Tryz.t75.zero⟩),
 (306,⟨Tryz.t305.desc,Tryz.t306.size,Tryz.t306.zero⟩),
 (327,⟨Tryz.t326.desc,Tryz.t327.size,Tryz.t327.zero⟩),
 (32,⟨Tryz.t32.desc,Tryz.t32.size,Tryz.t32.zero⟩),
 (324,⟨Tryz.t324.desc,Tryz.t324.size,Tryz.t324.zero⟩),
 (507,⟨Tryz.t507.desc,Tryz.t507.size,Tryz.t507.zero⟩),
 (53,⟨Tryz.t53.desc,Tryz.t53.size,Tryz.t53.zero⟩),
 (364,⟨Tryz.t364.desc,Tryz.t364.size,Tryz.t364.zero⟩),
 (292,⟨Tryz.t292.desc,Tryz.t292.size,Tryz.t292.zero⟩),
 (520,⟨Tryz.t520.desc,Tryz.t520.size,Tryz.t520.zero⟩),
 (502,⟨Tryz.t502.desc,Tryz.t502.size,Tryz.t502.zero⟩),
 (405,⟨Tryz.t405.desc,Tryz.t405.size,Tryz.t405.zero⟩),
 (145,⟨Tryz.t145.desc,Tryz.t145.size,Tryz.t145.zero⟩),
 (409,⟨Tryz.t409.desc,Tryz.t409.size,Tryz.t409.zero⟩),
 (413,⟨Tryz.t413.desc,Tryz.t413.size,Tryz.t413.zero⟩),
 (415,⟨Tryz.t415.desc,Tryz.t415.size,Tryz.t415.zero⟩),
 (515,⟨Tryz.t515.desc,Tryz.t515.size,Tryz.t515.zero⟩),
 (293,⟨Tryz.t293.desc,Tryz.t293.size,Tryz.t293.zero⟩),
 (521,⟨Tryz.t521.desc,Tryz.t521.size,Tryz.t521.zero⟩),
 (503,⟨Tryz.t503.desc,Tryz.t503.size,Tryz.t503.zero⟩),
 (384,⟨Tryz.t384.desc,Tryz.t384.size,Tryz.t384.zero⟩),
 (389,⟨Tryz.t389.desc,Tryz.t389.size,Tryz.t389.zero⟩),
 (532,⟨Tryz.t532.desc,Tryz.t532.size,Tryz.t532.zero⟩),
 (465,⟨Tryz.t465.desc,Tryz.t465.size,Tryz.t465.zero⟩),
 (466,⟨Tryz.t466.desc,Tryz.t466.size,Tryz.t466.zero⟩),
 (144,⟨Tryz.t144.desc,Tryz.t144.size,Tryz.t144.zero⟩),
 (416,⟨Tryz.t416.desc,Tryz.t416.size,Tryz.t416.zero⟩),
 (516,⟨Tryz.t516.desc,Tryz.t516.size,Tryz.t516.zero⟩),
 (524,⟨Tryz.t524.desc,Tryz.t524.size,Tryz.t524.zero⟩),
 (2,⟨Tryz.t2.desc,Tryz.t2.size,Tryz.t2.zero⟩),
 (357,⟨Tryz.t357.desc,Tryz.t357.size,Tryz.t357.zero⟩),
 (399,⟨Tryz.t399.desc,Tryz.t399.size,Tryz.t399.zero⟩)]
noncomputable def fns:List (Nat × Func):=[(3,Tryz.f3),
 (4,Tryz.f4),
 (13,Tryz.f13),
 (17,Tryz.f17),
 (36,Tryz.f36),
 (83,Tryz.f83),
 (145,Tryz.f145),
 (222,Tryz.f222),
 (223,Tryz.f223),
 (288,Tryz.f288),
 (224,Tryz.f224),
 (289,Tryz.f289),
 (146,Tryz.f146),
 (225,Tryz.f225),
 (226,Tryz.f226),
 (227,Tryz.f227),
 (228,Tryz.f228),
 (290,Tryz.f290),
 (346,Tryz.f346),
 (229,Tryz.f229),
 (84,Tryz.f84),
 (147,Tryz.f147),
 (85,Tryz.f85),
 (86,Tryz.f86),
 (148,Tryz.f148),
 (230,Tryz.f230),
 (231,Tryz.f231),
 (291,Tryz.f291),
 (347,Tryz.f347),
 (149,Tryz.f149),
 (150,Tryz.f150),
 (152,Tryz.f152),
 (232,Tryz.f232),
 (292,Tryz.f292),
 (151,Tryz.f151),
 (153,Tryz.f153),
 (233,Tryz.f233),
 (234,Tryz.f234),
 (293,Tryz.f293),
 (294,Tryz.f294),
 (348,Tryz.f348),
 (396,Tryz.f396),
 (439,Tryz.f439),
 (397,Tryz.f397),
 (295,Tryz.f295),
 (296,Tryz.f296),
 (297,Tryz.f297),
 (349,Tryz.f349),
 (37,Tryz.f37),
 (40,Tryz.f40),
 (94,Tryz.f94),
 (87,Tryz.f87),
 (155,Tryz.f155),
 (154,Tryz.f154),
 (88,Tryz.f88),
 (89,Tryz.f89),
 (38,Tryz.f38),
 (90,Tryz.f90),
 (91,Tryz.f91),
 (156,Tryz.f156),
 (157,Tryz.f157),
 (235,Tryz.f235),
 (59,Tryz.f59),
 (39,Tryz.f39),
 (92,Tryz.f92),
 (158,Tryz.f158),
 (236,Tryz.f236),
 (298,Tryz.f298),
 (304,Tryz.f304),
 (302,Tryz.f302),
 (350,Tryz.f350),
 (351,Tryz.f351),
 (398,Tryz.f398),
 (352,Tryz.f352),
 (399,Tryz.f399),
 (400,Tryz.f400),
 (401,Tryz.f401),
 (353,Tryz.f353),
 (402,Tryz.f402),
 (403,Tryz.f403),
 (300,Tryz.f300),
 (237,Tryz.f237),
 (299,Tryz.f299),
 (240,Tryz.f240),
 (306,Tryz.f306),
 (307,Tryz.f307),
 (308,Tryz.f308),
 (354,Tryz.f354),
 (303,Tryz.f303),
 (238,Tryz.f238),
 (301,Tryz.f301),
 (239,Tryz.f239),
 (305,Tryz.f305),
 (241,Tryz.f241),
 (242,Tryz.f242),
 (93,Tryz.f93),
 (41,Tryz.f41),
 (18,Tryz.f18),
 (19,Tryz.f19),
 (42,Tryz.f42),
 (20,Tryz.f20),
 (43,Tryz.f43),
 (95,Tryz.f95),
 (159,Tryz.f159),
 (243,Tryz.f243),
 (244,Tryz.f244),
 (309,Tryz.f309),
 (247,Tryz.f247),
 (310,Tryz.f310),
 (245,Tryz.f245),
 (248,Tryz.f248),
 (311,Tryz.f311),
 (246,Tryz.f246),
 (44,Tryz.f44),
 (96,Tryz.f96),
 (160,Tryz.f160),
 (161,Tryz.f161),
 (249,Tryz.f249),
 (216,Tryz.f216),
 (312,Tryz.f312),
 (162,Tryz.f162),
 (163,Tryz.f163),
 (250,Tryz.f250),
 (251,Tryz.f251),
 (313,Tryz.f313),
 (355,Tryz.f355),
 (342,Tryz.f342),
 (357,Tryz.f357),
 (405,Tryz.f405),
 (406,Tryz.f406),
 (356,Tryz.f356),
 (404,Tryz.f404),
 (440,Tryz.f440),
 (441,Tryz.f441),
 (442,Tryz.f442),
 (443,Tryz.f443),
 (453,Tryz.f453),
 (452,Tryz.f452),
 (252,Tryz.f252),
 (314,Tryz.f314),
 (358,Tryz.f358),
 (407,Tryz.f407),
 (444,Tryz.f444),
 (445,Tryz.f445),
 (454,Tryz.f454),
 (217,Tryz.f217),
 (455,Tryz.f455),
 (97,Tryz.f97),
 (165,Tryz.f165),
 (164,Tryz.f164),
 (166,Tryz.f166),
 (98,Tryz.f98),
 (167,Tryz.f167),
 (253,Tryz.f253),
 (255,Tryz.f255),
 (316,Tryz.f316),
 (361,Tryz.f361),
 (319,Tryz.f319),
 (315,Tryz.f315),
 (359,Tryz.f359),
 (408,Tryz.f408),
 (416,Tryz.f416),
 (360,Tryz.f360),
 (409,Tryz.f409),
 (362,Tryz.f362),
 (321,Tryz.f321),
 (369,Tryz.f369),
 (370,Tryz.f370),
 (322,Tryz.f322),
 (363,Tryz.f363),
 (410,Tryz.f410),
 (364,Tryz.f364),
 (365,Tryz.f365),
 (411,Tryz.f411),
 (412,Tryz.f412),
 (413,Tryz.f413),
 (446,Tryz.f446),
 (456,Tryz.f456),
 (447,Tryz.f447),
 (448,Tryz.f448),
 (414,Tryz.f414),
 (366,Tryz.f366),
 (415,Tryz.f415),
 (368,Tryz.f368),
 (367,Tryz.f367),
 (254,Tryz.f254),
 (317,Tryz.f317),
 (318,Tryz.f318),
 (256,Tryz.f256),
 (320,Tryz.f320),
 (99,Tryz.f99),
 (168,Tryz.f168),
 (257,Tryz.f257),
 (323,Tryz.f323),
 (371,Tryz.f371),
 (417,Tryz.f417),
 (418,Tryz.f418),
 (324,Tryz.f324),
 (373,Tryz.f373),
 (372,Tryz.f372),
 (325,Tryz.f325),
 (374,Tryz.f374),
 (419,Tryz.f419),
 (449,Tryz.f449),
 (376,Tryz.f376),
 (421,Tryz.f421),
 (426,Tryz.f426),
 (423,Tryz.f423),
 (422,Tryz.f422),
 (420,Tryz.f420),
 (377,Tryz.f377),
 (375,Tryz.f375),
 (378,Tryz.f378),
 (169,Tryz.f169),
 (170,Tryz.f170),
 (186,Tryz.f186),
 (50,Tryz.f50),
 (178,Tryz.f178),
 (177,Tryz.f177),
 (258,Tryz.f258),
 (180,Tryz.f180),
 (172,Tryz.f172),
 (182,Tryz.f182),
 (171,Tryz.f171),
 (173,Tryz.f173),
 (174,Tryz.f174),
 (259,Tryz.f259),
 (326,Tryz.f326),
 (379,Tryz.f379),
 (425,Tryz.f425),
 (424,Tryz.f424),
 (450,Tryz.f450),
 (380,Tryz.f380),
 (119,Tryz.f119),
 (382,Tryz.f382),
 (383,Tryz.f383),
 (428,Tryz.f428),
 (429,Tryz.f429),
 (384,Tryz.f384),
 (430,Tryz.f430),
 (431,Tryz.f431),
 (451,Tryz.f451),
 (133,Tryz.f133),
 (218,Tryz.f218),
 (385,Tryz.f385),
 (381,Tryz.f381),
 (427,Tryz.f427),
 (327,Tryz.f327),
 (328,Tryz.f328),
 (176,Tryz.f176),
 (179,Tryz.f179),
 (184,Tryz.f184),
 (260,Tryz.f260),
 (329,Tryz.f329),
 (330,Tryz.f330),
 (261,Tryz.f261),
 (175,Tryz.f175),
 (181,Tryz.f181),
 (21,Tryz.f21),
 (45,Tryz.f45),
 (100,Tryz.f100),
 (77,Tryz.f77),
 (137,Tryz.f137),
 (136,Tryz.f136),
 (219,Tryz.f219),
 (138,Tryz.f138),
 (220,Tryz.f220),
 (139,Tryz.f139),
 (140,Tryz.f140),
 (141,Tryz.f141),
 (142,Tryz.f142),
 (221,Tryz.f221),
 (143,Tryz.f143),
 (212,Tryz.f212),
 (214,Tryz.f214),
 (287,Tryz.f287),
 (183,Tryz.f183),
 (185,Tryz.f185),
 (46,Tryz.f46),
 (101,Tryz.f101),
 (32,Tryz.f32),
 (66,Tryz.f66),
 (114,Tryz.f114),
 (47,Tryz.f47),
 (102,Tryz.f102),
 (187,Tryz.f187),
 (48,Tryz.f48),
 (103,Tryz.f103),
 (188,Tryz.f188),
 (104,Tryz.f104),
 (189,Tryz.f189),
 (118,Tryz.f118),
 (115,Tryz.f115),
 (199,Tryz.f199),
 (210,Tryz.f210),
 (282,Tryz.f282),
 (283,Tryz.f283),
 (280,Tryz.f280),
 (284,Tryz.f284),
 (285,Tryz.f285),
 (281,Tryz.f281),
 (211,Tryz.f211),
 (286,Tryz.f286),
 (22,Tryz.f22),
 (49,Tryz.f49),
 (51,Tryz.f51),
 (52,Tryz.f52),
 (105,Tryz.f105),
 (53,Tryz.f53),
 (106,Tryz.f106),
 (190,Tryz.f190),
 (262,Tryz.f262),
 (331,Tryz.f331),
 (332,Tryz.f332),
 (386,Tryz.f386),
 (432,Tryz.f432),
 (387,Tryz.f387),
 (333,Tryz.f333),
 (343,Tryz.f343),
 (393,Tryz.f393),
 (436,Tryz.f436),
 (394,Tryz.f394),
 (438,Tryz.f438),
 (437,Tryz.f437),
 (388,Tryz.f388),
 (433,Tryz.f433),
 (334,Tryz.f334),
 (389,Tryz.f389),
 (434,Tryz.f434),
 (390,Tryz.f390),
 (107,Tryz.f107),
 (192,Tryz.f192),
 (263,Tryz.f263),
 (335,Tryz.f335),
 (338,Tryz.f338),
 (392,Tryz.f392),
 (435,Tryz.f435),
 (64,Tryz.f64),
 (65,Tryz.f65),
 (116,Tryz.f116),
 (200,Tryz.f200),
 (201,Tryz.f201),
 (202,Tryz.f202),
 (203,Tryz.f203),
 (117,Tryz.f117),
 (204,Tryz.f204),
 (205,Tryz.f205),
 (206,Tryz.f206),
 (207,Tryz.f207),
 (208,Tryz.f208),
 (209,Tryz.f209),
 (391,Tryz.f391),
 (35,Tryz.f35),
 (80,Tryz.f80),
 (82,Tryz.f82),
 (81,Tryz.f81),
 (336,Tryz.f336),
 (34,Tryz.f34),
 (78,Tryz.f78),
 (122,Tryz.f122),
 (79,Tryz.f79),
 (144,Tryz.f144),
 (268,Tryz.f268),
 (191,Tryz.f191),
 (267,Tryz.f267),
 (269,Tryz.f269),
 (341,Tryz.f341),
 (270,Tryz.f270),
 (264,Tryz.f264),
 (337,Tryz.f337),
 (265,Tryz.f265),
 (339,Tryz.f339),
 (340,Tryz.f340),
 (266,Tryz.f266),
 (108,Tryz.f108),
 (193,Tryz.f193),
 (271,Tryz.f271),
 (194,Tryz.f194),
 (272,Tryz.f272),
 (273,Tryz.f273),
 (344,Tryz.f344),
 (395,Tryz.f395),
 (274,Tryz.f274),
 (275,Tryz.f275),
 (54,Tryz.f54),
 (109,Tryz.f109),
 (195,Tryz.f195),
 (276,Tryz.f276),
 (196,Tryz.f196),
 (197,Tryz.f197),
 (277,Tryz.f277),
 (278,Tryz.f278),
 (279,Tryz.f279),
 (198,Tryz.f198),
 (14,Tryz.f14),
 (23,Tryz.f23),
 (56,Tryz.f56),
 (55,Tryz.f55),
 (24,Tryz.f24),
 (57,Tryz.f57),
 (58,Tryz.f58),
 (110,Tryz.f110),
 (5,Tryz.f5),
 (15,Tryz.f15),
 (6,Tryz.f6),
 (60,Tryz.f60),
 (111,Tryz.f111),
 (112,Tryz.f112),
 (61,Tryz.f61),
 (7,Tryz.f7),
 (25,Tryz.f25),
 (8,Tryz.f8),
 (16,Tryz.f16),
 (30,Tryz.f30),
 (63,Tryz.f63),
 (31,Tryz.f31),
 (33,Tryz.f33),
 (67,Tryz.f67),
 (120,Tryz.f120),
 (68,Tryz.f68),
 (62,Tryz.f62),
 (113,Tryz.f113),
 (121,Tryz.f121),
 (69,Tryz.f69),
 (70,Tryz.f70),
 (123,Tryz.f123),
 (71,Tryz.f71),
 (124,Tryz.f124),
 (125,Tryz.f125),
 (213,Tryz.f213),
 (126,Tryz.f126),
 (132,Tryz.f132),
 (215,Tryz.f215),
 (130,Tryz.f130),
 (72,Tryz.f72),
 (127,Tryz.f127),
 (73,Tryz.f73),
 (128,Tryz.f128),
 (74,Tryz.f74),
 (129,Tryz.f129),
 (131,Tryz.f131),
 (75,Tryz.f75),
 (134,Tryz.f134),
 (76,Tryz.f76),
 (135,Tryz.f135),
 (11,Tryz.f11),
 (27,Tryz.f27),
 (26,Tryz.f26),
 (10,Tryz.f10),
 (29,Tryz.f29),
 (28,Tryz.f28),
 (9,Tryz.f9),
 (12,Tryz.f12)]
theorem Sj:∀ p∈tt,Tryz.prog.underlying p.1=some p.2.desc :=
 all_cons (by kernel_rfl) <|
 all_cons (by kernel_rfl) <|
 all_cons (by kernel_rfl) <|
 all_cons (by kernel_rfl) <|
 all_cons (by kernel_rfl) <|
 all_cons (by kernel_rfl) <|
 all_cons (by kernel_rfl) <|
 all_cons (by kernel_rfl) <|
 all_cons (by kernel_rfl) <|
 all_cons (by kernel_rfl) <|
 all_cons (by kernel_rfl) <|
 all_cons (by kernel_rfl) <|
 all_cons (by kernel_rfl) <|
 all_cons (by kernel_rfl) <|
 all_cons (by kernel_rfl) <|
 all_cons (by kernel_rfl) <|
 all_cons (by kernel_rfl) <|
 all_cons (by kernel_rfl) <|
 all_cons (by kernel_rfl) <|
 all_cons (by kernel_rfl) <|
 all_cons (by kernel_rfl) <|
 all_cons (by kernel_rfl) <|
 all_cons (by kernel_rfl) <|
 all_cons (by kernel_rfl) <|
 all_cons (by kernel_rfl) <|
 all_cons (by kernel_rfl) <|
 all_cons (by kernel_rfl) <|
 all_cons (by kernel_rfl) <|
 all_cons (by kernel_rfl) <|
 all_cons (by kernel_rfl) <|
 all_cons (by kernel_rfl) <|
 all_cons (by kernel_rfl) <|
 all_cons (by kernel_rfl) <|
 all_cons (by kernel_rfl) <|
 all_cons (by kernel_rfl) <|
 all_cons (by kernel_rfl) <|
 all_cons (by kernel_rfl) <|
 all_cons (by kernel_rfl) <|
 all_cons (by kernel_rfl) <|
 all_cons (by kernel_rfl) <|
 all_cons (by kernel_rfl) <|
 all_cons (by kernel_rfl) <|
 all_cons (by kernel_rfl) <|
 all_cons (by kernel_rfl) <|
 all_cons (by kernel_rfl) <|
 all_cons (by kernel_rfl) <|
 all_cons (by kernel_rfl) <|
 all_cons (by kernel_rfl) <|
 all_cons (by kernel_rfl) <|
 all_cons (by kernel_rfl) <|
 all_cons (by kernel_rfl) <|
 all_cons (by kernel_rfl) <|
 all_cons (by kernel_rfl) <|
 all_cons (by kernel_rfl) <|
 all_cons (by kernel_rfl) <|
 all_cons (by kernel_rfl) <|
 all_cons (by kernel_rfl) <|
 all_cons (by kernel_rfl) <|
 all_cons (by kernel_rfl) <|
 all_cons (by kernel_rfl) <|
 all_cons (by kernel_rfl) <|
 all_cons (by kernel_rfl) <|
 all_cons (by kernel_rfl) <|
 all_cons (by kernel_rfl) <|
 all_cons (by kernel_rfl) <|
 all_cons (by kernel_rfl) <|
 all_cons (by kernel_rfl) <|
 all_cons (by kernel_rfl) <|
 all_cons (by kernel_rfl) <|
 all_cons (by kernel_rfl) <|
 all_cons (by kernel_rfl) <|
 all_cons (by kernel_rfl) <|
 all_cons (by kernel_rfl) <|
 all_cons (by kernel_rfl) <|
 all_cons (by kernel_rfl) <|
 all_cons (by kernel_rfl) <|
 all_cons (by kernel_rfl) <|
 all_cons (by kernel_rfl) <|
 all_cons (by kernel_rfl) <|
 all_cons (by kernel_rfl) <|
 all_cons (by kernel_rfl) <|
 all_cons (by kernel_rfl) <|
 all_cons (by kernel_rfl) <|
 all_cons (by kernel_rfl) <|
 all_cons (by kernel_rfl) <|
 all_cons (by kernel_rfl) <|
 all_cons (by kernel_rfl) <|
 all_cons (by kernel_rfl) <|
 all_cons (by kernel_rfl) <|
 all_cons (by kernel_rfl) <|
 all_cons (by kernel_rfl) <|
 all_cons (by kernel_rfl) <|
 all_cons (by kernel_rfl) <|
 all_cons (by kernel_rfl) <|
 all_cons (by kernel_rfl) <|
 all_cons (by kernel_rfl) <|
 all_cons (by kernel_rfl) <|
 all_cons (by kernel_rfl) <|
 all_cons (by kernel_rfl) <|
 all_cons (by kernel_rfl) <|
 all_cons (by kernel_rfl) <|
 all_cons (by kernel_rfl) <|
 all_cons (by kernel_rfl) <|
 all_cons (by kernel_rfl) <|
 all_cons (by kernel_rfl) <|
 all_cons (by kernel_rfl) <|
 all_cons (by kernel_rfl) <|
 all_cons (by kernel_rfl) <|
 all_cons (by kernel_rfl) <|
 all_cons (by kernel_rfl) <|
 all_cons (by kernel_rfl) <|
 all_cons (by kernel_rfl) <|
 all_cons (by kernel_rfl) <|
 all_cons (by kernel_rfl) <|
 all_cons (by kernel_rfl) <|
 all_cons (by kernel_rfl) <|
 all_cons (by kernel_rfl) <|
 all_cons (by kernel_rfl) <|
 all_cons (by kernel_rfl) <|
 all_cons (by kernel_rfl) <|
 all_cons (by kernel_rfl) <|
 all_cons (by kernel_rfl) <|
 all_cons (by kernel_rfl) <|
 all_cons (by kernel_rfl) <|
 all_cons (by kernel_rfl) <|
 all_cons (by kernel_rfl) <|
 all_cons (by kernel_rfl) <|
 all_cons (by kernel_rfl) <|
 all_cons (by kernel_rfl) <|
 all_cons (by kernel_rfl) <|
 all_cons (by kernel_rfl) <|
 all_cons (by kernel_rfl) <|
 all_cons (by kernel_rfl) <| all_nil
theorem Sk:∀ p∈tt,∃ i,Tryz.prog.info? p.1=some i/\i.size=p.2.size/\i.zero=p.2.zero :=
 all_cons ⟨Tryz.t3,by kernel_rfl,rfl,rfl⟩ <|
 all_cons ⟨Tryz.t121,by kernel_rfl,rfl,rfl⟩ <|
 all_cons ⟨Tryz.t135,by kernel_rfl,rfl,rfl⟩ <|
 all_cons ⟨Tryz.t366,by kernel_rfl,rfl,rfl⟩ <|
 all_cons ⟨Tryz.t23,by kernel_rfl,rfl,rfl⟩ <|
 all_cons ⟨Tryz.t76,by kernel_rfl,rfl,rfl⟩ <|
 all_cons ⟨Tryz.t215,by kernel_rfl,rfl,rfl⟩ <|
 all_cons ⟨Tryz.t9,by kernel_rfl,rfl,rfl⟩ <|
 all_cons ⟨Tryz.t104,by kernel_rfl,rfl,rfl⟩ <|
 all_cons ⟨Tryz.t119,by kernel_rfl,rfl,rfl⟩ <|
 all_cons ⟨Tryz.t213,by kernel_rfl,rfl,rfl⟩ <|
 all_cons ⟨Tryz.t29,by kernel_rfl,rfl,rfl⟩ <|
 all_cons ⟨Tryz.t133,by kernel_rfl,rfl,rfl⟩ <|
 all_cons ⟨Tryz.t107,by kernel_rfl,rfl,rfl⟩ <|
 all_cons ⟨Tryz.t278,by kernel_rfl,rfl,rfl⟩ <|
 all_cons ⟨Tryz.t97,by kernel_rfl,rfl,rfl⟩ <|
 all_cons ⟨Tryz.t240,by kernel_rfl,rfl,rfl⟩ <|
 all_cons ⟨Tryz.t446,by kernel_rfl,rfl,rfl⟩ <|
 all_cons ⟨Tryz.t276,by kernel_rfl,rfl,rfl⟩ <|
 all_cons ⟨Tryz.t229,by kernel_rfl,rfl,rfl⟩ <|
 all_cons ⟨Tryz.t94,by kernel_rfl,rfl,rfl⟩ <|
 all_cons ⟨Tryz.t127,by kernel_rfl,rfl,rfl⟩ <|
 all_cons ⟨Tryz.t142,by kernel_rfl,rfl,rfl⟩ <|
 all_cons ⟨Tryz.t22,by kernel_rfl,rfl,rfl⟩ <|
 all_cons ⟨Tryz.t494,by kernel_rfl,rfl,rfl⟩ <|
 all_cons ⟨Tryz.t246,by kernel_rfl,rfl,rfl⟩ <|
 all_cons ⟨Tryz.t166,by kernel_rfl,rfl,rfl⟩ <|
 all_cons ⟨Tryz.t102,by kernel_rfl,rfl,rfl⟩ <|
 all_cons ⟨Tryz.t217,by kernel_rfl,rfl,rfl⟩ <|
 all_cons ⟨Tryz.t105,by kernel_rfl,rfl,rfl⟩ <|
 all_cons ⟨Tryz.t26,by kernel_rfl,rfl,rfl⟩ <|
 all_cons ⟨Tryz.t79,by kernel_rfl,rfl,rfl⟩ <|
 all_cons ⟨Tryz.t109,by kernel_rfl,rfl,rfl⟩ <|
 all_cons ⟨Tryz.t176,by kernel_rfl,rfl,rfl⟩ <|
 all_cons ⟨Tryz.t231,by kernel_rfl,rfl,rfl⟩ <|
 all_cons ⟨Tryz.t198,by kernel_rfl,rfl,rfl⟩ <|
 all_cons ⟨Tryz.t382,by kernel_rfl,rfl,rfl⟩ <|
 all_cons ⟨Tryz.t236,by kernel_rfl,rfl,rfl⟩ <|
 all_cons ⟨Tryz.t442,by kernel_rfl,rfl,rfl⟩ <|
 all_cons ⟨Tryz.t315,by kernel_rfl,rfl,rfl⟩ <|
 all_cons ⟨Tryz.t95,by kernel_rfl,rfl,rfl⟩ <|
 all_cons ⟨Tryz.t221,by kernel_rfl,rfl,rfl⟩ <|
 all_cons ⟨Tryz.t4,by kernel_rfl,rfl,rfl⟩ <|
 all_cons ⟨Tryz.t93,by kernel_rfl,rfl,rfl⟩ <|
 all_cons ⟨Tryz.t65,by kernel_rfl,rfl,rfl⟩ <|
 all_cons ⟨Tryz.t321,by kernel_rfl,rfl,rfl⟩ <|
 all_cons ⟨Tryz.t91,by kernel_rfl,rfl,rfl⟩ <|
 all_cons ⟨Tryz.t101,by kernel_rfl,rfl,rfl⟩ <|
 all_cons ⟨Tryz.t72,by kernel_rfl,rfl,rfl⟩ <|
 all_cons ⟨Tryz.t193,by kernel_rfl,rfl,rfl⟩ <|
 all_cons ⟨Tryz.t70,by kernel_rfl,rfl,rfl⟩ <|
 all_cons ⟨Tryz.t310,by kernel_rfl,rfl,rfl⟩ <|
 all_cons ⟨Tryz.t313,by kernel_rfl,rfl,rfl⟩ <|
 all_cons ⟨Tryz.t157,by kernel_rfl,rfl,rfl⟩ <|
 all_cons ⟨Tryz.t238,by kernel_rfl,rfl,rfl⟩ <|
 all_cons ⟨Tryz.t48,by kernel_rfl,rfl,rfl⟩ <|
 all_cons ⟨Tryz.t5,by kernel_rfl,rfl,rfl⟩ <|
 all_cons ⟨Tryz.t67,by kernel_rfl,rfl,rfl⟩ <|
 all_cons ⟨Tryz.t195,by kernel_rfl,rfl,rfl⟩ <|
 all_cons ⟨Tryz.t274,by kernel_rfl,rfl,rfl⟩ <|
 all_cons ⟨Tryz.t224,by kernel_rfl,rfl,rfl⟩ <|
 all_cons ⟨Tryz.t155,by kernel_rfl,rfl,rfl⟩ <|
 all_cons ⟨Tryz.t60,by kernel_rfl,rfl,rfl⟩ <|
 all_cons ⟨Tryz.t51,by kernel_rfl,rfl,rfl⟩ <|
 all_cons ⟨Tryz.t211,by kernel_rfl,rfl,rfl⟩ <|
 all_cons ⟨Tryz.t301,by kernel_rfl,rfl,rfl⟩ <|
 all_cons ⟨Tryz.t55,by kernel_rfl,rfl,rfl⟩ <|
 all_cons ⟨Tryz.t88,by kernel_rfl,rfl,rfl⟩ <|
 all_cons ⟨Tryz.t386,by kernel_rfl,rfl,rfl⟩ <|
 all_cons ⟨Tryz.t345,by kernel_rfl,rfl,rfl⟩ <|
 all_cons ⟨Tryz.t139,by kernel_rfl,rfl,rfl⟩ <|
 all_cons ⟨Tryz.t41,by kernel_rfl,rfl,rfl⟩ <|
 all_cons ⟨Tryz.t444,by kernel_rfl,rfl,rfl⟩ <|
 all_cons ⟨Tryz.t100,by kernel_rfl,rfl,rfl⟩ <|
 all_cons ⟨Tryz.t52,by kernel_rfl,rfl,rfl⟩ <|
 all_cons ⟨Tryz.t38,by kernel_rfl,rfl,rfl⟩ <|
 all_cons ⟨Tryz.t81,by kernel_rfl,rfl,rfl⟩ <|
 all_cons ⟨Tryz.t99,by kernel_rfl,rfl,rfl⟩ <|
 all_cons ⟨Tryz.t168,by kernel_rfl,rfl,rfl⟩ <|
 all_cons ⟨Tryz.t497,by kernel_rfl,rfl,rfl⟩ <|
 all_cons ⟨Tryz.t243,by kernel_rfl,rfl,rfl⟩ <|
 all_cons ⟨Tryz.t58,by kernel_rfl,rfl,rfl⟩ <|
 all_cons ⟨Tryz.t443,by kernel_rfl,rfl,rfl⟩ <|
 all_cons ⟨Tryz.t452,by kernel_rfl,rfl,rfl⟩ <|
 all_cons ⟨Tryz.t311,by kernel_rfl,rfl,rfl⟩ <|
 all_cons ⟨Tryz.t234,by kernel_rfl,rfl,rfl⟩ <|
 all_cons ⟨Tryz.t456,by kernel_rfl,rfl,rfl⟩ <|
 all_cons ⟨Tryz.t398,by kernel_rfl,rfl,rfl⟩ <|
 all_cons ⟨Tryz.t24,by kernel_rfl,rfl,rfl⟩ <|
 all_cons ⟨Tryz.t46,by kernel_rfl,rfl,rfl⟩ <|
 all_cons ⟨Tryz.t440,by kernel_rfl,rfl,rfl⟩ <|
 all_cons ⟨Tryz.t28,by kernel_rfl,rfl,rfl⟩ <|
 all_cons ⟨Tryz.t78,by kernel_rfl,rfl,rfl⟩ <|
 all_cons ⟨Tryz.t190,by kernel_rfl,rfl,rfl⟩ <|
 all_cons ⟨Tryz.t140,by kernel_rfl,rfl,rfl⟩ <|
 all_cons ⟨Tryz.t180,by kernel_rfl,rfl,rfl⟩ <|
 all_cons ⟨Tryz.t331,by kernel_rfl,rfl,rfl⟩ <|
 all_cons ⟨Tryz.t439,by kernel_rfl,rfl,rfl⟩ <|
 all_cons ⟨Tryz.t242,by kernel_rfl,rfl,rfl⟩ <|
 all_cons ⟨Tryz.t272,by kernel_rfl,rfl,rfl⟩ <|
 all_cons ⟨Tryz.t63,by kernel_rfl,rfl,rfl⟩ <|
 all_cons ⟨Tryz.t75,by kernel_rfl,rfl,rfl⟩ <|
 all_cons ⟨Tryz.t306,by kernel_rfl,rfl,rfl⟩ <|
 all_cons ⟨Tryz.t327,by kernel_rfl,rfl,rfl⟩ <|
 all_cons ⟨Tryz.t32,by kernel_rfl,rfl,rfl⟩ <|
 all_cons ⟨Tryz.t324,by kernel_rfl,rfl,rfl⟩ <|
 all_cons ⟨Tryz.t507,by kernel_rfl,rfl,rfl⟩ <|
 all_cons ⟨Tryz.t53,by kernel_rfl,rfl,rfl⟩ <|
 all_cons ⟨Tryz.t364,by kernel_rfl,rfl,rfl⟩ <|
 all_cons ⟨Tryz.t292,by kernel_rfl,rfl,rfl⟩ <|
 all_cons ⟨Tryz.t520,by kernel_rfl,rfl,rfl⟩ <|
 all_cons ⟨Tryz.t502,by kernel_rfl,rfl,rfl⟩ <|
 all_cons ⟨Tryz.t405,by kernel_rfl,rfl,rfl⟩ <|
 all_cons ⟨Tryz.t145,by kernel_rfl,rfl,rfl⟩ <|
 all_cons ⟨Tryz.t409,by kernel_rfl,rfl,rfl⟩ <|
 all_cons ⟨Tryz.t413,by kernel_rfl,rfl,rfl⟩ <|
 all_cons ⟨Tryz.t415,by kernel_rfl,rfl,rfl⟩ <|
 all_cons ⟨Tryz.t515,by kernel_rfl,rfl,rfl⟩ <|
 all_cons ⟨Tryz.t293,by kernel_rfl,rfl,rfl⟩ <|
 all_cons ⟨Tryz.t521,by kernel_rfl,rfl,rfl⟩ <|
 all_cons ⟨Tryz.t503,by kernel_rfl,rfl,rfl⟩ <|
 all_cons ⟨Tryz.t384,by kernel_rfl,rfl,rfl⟩ <|
 all_cons ⟨Tryz.t389,by kernel_rfl,rfl,rfl⟩ <|
 all_cons ⟨Tryz.t532,by kernel_rfl,rfl,rfl⟩ <|
 all_cons ⟨Tryz.t465,by kernel_rfl,rfl,rfl⟩ <|
 all_cons ⟨Tryz.t466,by kernel_rfl,rfl,rfl⟩ <|
 all_cons ⟨Tryz.t144,by kernel_rfl,rfl,rfl⟩ <|
 all_cons ⟨Tryz.t416,by kernel_rfl,rfl,rfl⟩ <|
 all_cons ⟨Tryz.t516,by kernel_rfl,rfl,rfl⟩ <|
 all_cons ⟨Tryz.t524,by kernel_rfl,rfl,rfl⟩ <|
 all_cons ⟨Tryz.t2,by kernel_rfl,rfl,rfl⟩ <|
 all_cons ⟨Tryz.t357,by kernel_rfl,rfl,rfl⟩ <|
 all_cons ⟨Tryz.t399,by kernel_rfl,rfl,rfl⟩ <| all_nil
set_option maxRecDepth 100000 in
theorem II:∀ p∈fns,Tryz.prog.funcs[p.1]?=some p.2 :=
 all_cons Tryz.func3 <|
 all_cons Tryz.func4 <|
 all_cons Tryz.func13 <|
 all_cons Tryz.func17 <|
 all_cons Tryz.func36 <|
 all_cons Tryz.func83 <|
 all_cons Tryz.func145 <|
 all_cons Tryz.func222 <|
 all_cons Tryz.func223 <|
 all_cons Tryz.func288 <|
 all_cons Tryz.func224 <|
 all_cons Tryz.func289 <|
 all_cons Tryz.func146 <|
 all_cons Tryz.func225 <|
 all_cons Tryz.func226 <|
 all_cons Tryz.func227 <|
 all_cons Tryz.func228 <|
 all_cons Tryz.func290 <|
 all_cons Tryz.func346 <|
 all_cons Tryz.func229 <|
 all_cons Tryz.func84 <|
 all_cons Tryz.func147 <|
 all_cons Tryz.func85 <|
 all_cons Tryz.func86 <|
 all_cons Tryz.func148 <|
 all_cons Tryz.func230 <|
 all_cons Tryz.func231 <|
 all_cons Tryz.func291 <|
 all_cons Tryz.func347 <|
 all_cons Tryz.func149 <|
 all_cons Tryz.func150 <|
 all_cons Tryz.func152 <|
 all_cons Tryz.func232 <|
 all_cons Tryz.func292 <|
 all_cons Tryz.func151 <|
 all_cons Tryz.func153 <|
 all_cons Tryz.func233 <|
 all_cons Tryz.func234 <|
 all_cons Tryz.func293 <|
 all_cons Tryz.func294 <|
 all_cons Tryz.func348 <|
 all_cons Tryz.func396 <|
 all_cons Tryz.func439 <|
 all_cons Tryz.func397 <|
 all_cons Tryz.func295 <|
 all_cons Tryz.func296 <|
 all_cons Tryz.func297 <|
 all_cons Tryz.func349 <|
 all_cons Tryz.func37 <|
 all_cons Tryz.func40 <|
 all_cons Tryz.func94 <|
 all_cons Tryz.func87 <|
 all_cons Tryz.func155 <|
 all_cons Tryz.func154 <|
 all_cons Tryz.func88 <|
 all_cons Tryz.func89 <|
 all_cons Tryz.func38 <|
 all_cons Tryz.func90 <|
 all_cons Tryz.func91 <|
 all_cons Tryz.func156 <|
 all_cons Tryz.func157 <|
 all_cons Tryz.func235 <|
 all_cons Tryz.func59 <|
 all_cons Tryz.func39 <|
 all_cons Tryz.func92 <|
 all_cons Tryz.func158 <|
 all_cons Tryz.func236 <|
 all_cons Tryz.func298 <|
 all_cons Tryz.func304 <|
 all_cons Tryz.func302 <|
 all_cons Tryz.func350 <|
 all_cons Tryz.func351 <|
 all_cons Tryz.func398 <|
 all_cons Tryz.func352 <|
 all_cons Tryz.func399 <|
 all_cons Tryz.func400 <|
 all_cons Tryz.func401 <|
 all_cons Tryz.func353 <|
 all_cons Tryz.func402 <|
 all_cons Tryz.func403 <|
 all_cons Tryz.func300 <|
 all_cons Tryz.func237 <|
 all_cons Tryz.func299 <|
 all_cons Tryz.func240 <|
 all_cons Tryz.func306 <|
 all_cons Tryz.func307 <|
 all_cons Tryz.func308 <|
 all_cons Tryz.func354 <|
 all_cons Tryz.func303 <|
 all_cons Tryz.func238 <|
 all_cons Tryz.func301 <|
 all_cons Tryz.func239 <|
 all_cons Tryz.func305 <|
 all_cons Tryz.func241 <|
 all_cons Tryz.func242 <|
 all_cons Tryz.func93 <|
 all_cons Tryz.func41 <|
 all_cons Tryz.func18 <|
 all_cons Tryz.func19 <|
 all_cons Tryz.func42 <|
 all_cons Tryz.func20 <|
 all_cons Tryz.func43 <|
 all_cons Tryz.func95 <|
 all_cons Tryz.func159 <|
 all_cons Tryz.func243 <|
 all_cons Tryz.func244 <|
 all_cons Tryz.func309 <|
 all_cons Tryz.func247 <|
 all_cons Tryz.func310 <|
 all_cons Tryz.func245 <|
 all_cons Tryz.func248 <|
 all_cons Tryz.func311 <|
 all_cons Tryz.func246 <|
 all_cons Tryz.func44 <|
 all_cons Tryz.func96 <|
 all_cons Tryz.func160 <|
 all_cons Tryz.func161 <|
 all_cons Tryz.func249 <|
 all_cons Tryz.func216 <|
 all_cons Tryz.func312 <|
 all_cons Tryz.func162 <|
 all_cons Tryz.func163 <|
 all_cons Tryz.func250 <|
 all_cons Tryz.func251 <|
 all_cons Tryz.func313 <|
 all_cons Tryz.func355 <|
 all_cons Tryz.func342 <|
 all_cons Tryz.func357 <|
 all_cons Tryz.func405 <|
 all_cons Tryz.func406 <|
 all_cons Tryz.func356 <|
 all_cons Tryz.func404 <|
 all_cons Tryz.func440 <|
 all_cons Tryz.func441 <|
 all_cons Tryz.func442 <|
 all_cons Tryz.func443 <|
 all_cons Tryz.func453 <|
 all_cons Tryz.func452 <|
 all_cons Tryz.func252 <|
 all_cons Tryz.func314 <|
 all_cons Tryz.func358 <|
 all_cons Tryz.func407 <|
 all_cons Tryz.func444 <|
 all_cons Tryz.func445 <|
 all_cons Tryz.func454 <|
 all_cons Tryz.func217 <|
 all_cons Tryz.func455 <|
 all_cons Tryz.func97 <|
 all_cons Tryz.func165 <|
 all_cons Tryz.func164 <|
 all_cons Tryz.func166 <|
 all_cons Tryz.func98 <|
 all_cons Tryz.func167 <|
 all_cons Tryz.func253 <|
 all_cons Tryz.func255 <|
 all_cons Tryz.func316 <|
 all_cons Tryz.func361 <|
 all_cons Tryz.func319 <|
 all_cons Tryz.func315 <|
 all_cons Tryz.func359 <|
 all_cons Tryz.func408 <|
 all_cons Tryz.func416 <|
 all_cons Tryz.func360 <|
 all_cons Tryz.func409 <|
 all_cons Tryz.func362 <|
 all_cons Tryz.func321 <|
 all_cons Tryz.func369 <|
 all_cons Tryz.func370 <|
 all_cons Tryz.func322 <|
 all_cons Tryz.func363 <|
 all_cons Tryz.func410 <|
 all_cons Tryz.func364 <|
 all_cons Tryz.func365 <|
 all_cons Tryz.func411 <|
 all_cons Tryz.func412 <|
 all_cons Tryz.func413 <|
 all_cons Tryz.func446 <|
 all_cons Tryz.func456 <|
 all_cons Tryz.func447 <|
 all_cons Tryz.func448 <|
 all_cons Tryz.func414 <|
 all_cons Tryz.func366 <|
 all_cons Tryz.func415 <|
 all_cons Tryz.func368 <|
 all_cons Tryz.func367 <|
 all_cons Tryz.func254 <|
 all_cons Tryz.func317 <|
 all_cons Tryz.func318 <|
 all_cons Tryz.func256 <|
 all_cons Tryz.func320 <|
 all_cons Tryz.func99 <|
 all_cons Tryz.func168 <|
 all_cons Tryz.func257 <|
 all_cons Tryz.func323 <|
 all_cons Tryz.func371 <|
 all_cons Tryz.func417 <|
 all_cons Tryz.func418 <|
 all_cons Tryz.func324 <|
 all_cons Tryz.func373 <|
 all_cons Tryz.func372 <|
 all_cons Tryz.func325 <|
 all_cons Tryz.func374 <|
 all_cons Tryz.func419 <|
 all_cons Tryz.func449 <|
 all_cons Tryz.func376 <|
 all_cons Tryz.func421 <|
 all_cons Tryz.func426 <|
 all_cons Tryz.func423 <|
 all_cons Tryz.func422 <|
 all_cons Tryz.func420 <|
 all_cons Tryz.func377 <|
 all_cons Tryz.func375 <|
 all_cons Tryz.func378 <|
 all_cons Tryz.func169 <|
 all_cons Tryz.func170 <|
 all_cons Tryz.func186 <|
 all_cons Tryz.func50 <|
 all_cons Tryz.func178 <|
 all_cons Tryz.func177 <|
 all_cons Tryz.func258 <|
 all_cons Tryz.func180 <|
 all_cons Tryz.func172 <|
 all_cons Tryz.func182 <|
 all_cons Tryz.func171 <|
 all_cons Tryz.func173 <|
 all_cons Tryz.func174 <|
 all_cons Tryz.func259 <|
 all_cons Tryz.func326 <|
 all_cons Tryz.func379 <|
 all_cons Tryz.func425 <|
 all_cons Tryz.func424 <|
 all_cons Tryz.func450 <|
 all_cons Tryz.func380 <|
 all_cons Tryz.func119 <|
 all_cons Tryz.func382 <|
 all_cons Tryz.func383 <|
 all_cons Tryz.func428 <|
 all_cons Tryz.func429 <|
 all_cons Tryz.func384 <|
 all_cons Tryz.func430 <|
 all_cons Tryz.func431 <|
 all_cons Tryz.func451 <|
 all_cons Tryz.func133 <|
 all_cons Tryz.func218 <|
 all_cons Tryz.func385 <|
 all_cons Tryz.func381 <|
 all_cons Tryz.func427 <|
 all_cons Tryz.func327 <|
 all_cons Tryz.func328 <|
 all_cons Tryz.func176 <|
 all_cons Tryz.func179 <|
 all_cons Tryz.func184 <|
 all_cons Tryz.func260 <|
 all_cons Tryz.func329 <|
 all_cons Tryz.func330 <|
 all_cons Tryz.func261 <|
 all_cons Tryz.func175 <|
 all_cons Tryz.func181 <|
 all_cons Tryz.func21 <|
 all_cons Tryz.func45 <|
 all_cons Tryz.func100 <|
 all_cons Tryz.func77 <|
 all_cons Tryz.func137 <|
 all_cons Tryz.func136 <|
 all_cons Tryz.func219 <|
 all_cons Tryz.func138 <|
 all_cons Tryz.func220 <|
 all_cons Tryz.func139 <|
 all_cons Tryz.func140 <|
 all_cons Tryz.func141 <|
 all_cons Tryz.func142 <|
 all_cons Tryz.func221 <|
 all_cons Tryz.func143 <|
 all_cons Tryz.func212 <|
 all_cons Tryz.func214 <|
 all_cons Tryz.func287 <|
 all_cons Tryz.func183 <|
 all_cons Tryz.func185 <|
 all_cons Tryz.func46 <|
 all_cons Tryz.func101 <|
 all_cons Tryz.func32 <|
 all_cons Tryz.func66 <|
 all_cons Tryz.func114 <|
 all_cons Tryz.func47 <|
 all_cons Tryz.func102 <|
 all_cons Tryz.func187 <|
 all_cons Tryz.func48 <|
 all_cons Tryz.func103 <|
 all_cons Tryz.func188 <|
 all_cons Tryz.func104 <|
 all_cons Tryz.func189 <|
 all_cons Tryz.func118 <|
 all_cons Tryz.func115 <|
 all_cons Tryz.func199 <|
 all_cons Tryz.func210 <|
 all_cons Tryz.func282 <|
 all_cons Tryz.func283 <|
 all_cons Tryz.func280 <|
 all_cons Tryz.func284 <|
 all_cons Tryz.func285 <|
 all_cons Tryz.func281 <|
 all_cons Tryz.func211 <|
 all_cons Tryz.func286 <|
 all_cons Tryz.func22 <|
 all_cons Tryz.func49 <|
 all_cons Tryz.func51 <|
 all_cons Tryz.func52 <|
 all_cons Tryz.func105 <|
 all_cons Tryz.func53 <|
 all_cons Tryz.func106 <|
 all_cons Tryz.func190 <|
 all_cons Tryz.func262 <|
 all_cons Tryz.func331 <|
 all_cons Tryz.func332 <|
 all_cons Tryz.func386 <|
 all_cons Tryz.func432 <|
 all_cons Tryz.func387 <|
 all_cons Tryz.func333 <|
 all_cons Tryz.func343 <|
 all_cons Tryz.func393 <|
 all_cons Tryz.func436 <|
 all_cons Tryz.func394 <|
 all_cons Tryz.func438 <|
 all_cons Tryz.func437 <|
 all_cons Tryz.func388 <|
 all_cons Tryz.func433 <|
 all_cons Tryz.func334 <|
 all_cons Tryz.func389 <|
 all_cons Tryz.func434 <|
 all_cons Tryz.func390 <|
 all_cons Tryz.func107 <|
 all_cons Tryz.func192 <|
 all_cons Tryz.func263 <|
 all_cons Tryz.func335 <|
 all_cons Tryz.func338 <|
 all_cons Tryz.func392 <|
 all_cons Tryz.func435 <|
 all_cons Tryz.func64 <|
 all_cons Tryz.func65 <|
 all_cons Tryz.func116 <|
 all_cons Tryz.func200 <|
 all_cons Tryz.func201 <|
 all_cons Tryz.func202 <|
 all_cons Tryz.func203 <|
 all_cons Tryz.func117 <|
 all_cons Tryz.func204 <|
 all_cons Tryz.func205 <|
 all_cons Tryz.func206 <|
 all_cons Tryz.func207 <|
 all_cons Tryz.func208 <|
 all_cons Tryz.func209 <|
 all_cons Tryz.func391 <|
 all_cons Tryz.func35 <|
 all_cons Tryz.func80 <|
 all_cons Tryz.func82 <|
 all_cons Tryz.func81 <|
 all_cons Tryz.func336 <|
 all_cons Tryz.func34 <|
 all_cons Tryz.func78 <|
 all_cons Tryz.func122 <|
 all_cons Tryz.func79 <|
 all_cons Tryz.func144 <|
 all_cons Tryz.func268 <|
 all_cons Tryz.func191 <|
 all_cons Tryz.func267 <|
 all_cons Tryz.func269 <|
 all_cons Tryz.func341 <|
 all_cons Tryz.func270 <|
 all_cons Tryz.func264 <|
 all_cons Tryz.func337 <|
 all_cons Tryz.func265 <|
 all_cons Tryz.func339 <|
 all_cons Tryz.func340 <|
 all_cons Tryz.func266 <|
 all_cons Tryz.func108 <|
 all_cons Tryz.func193 <|
 all_cons Tryz.func271 <|
 all_cons Tryz.func194 <|
 all_cons Tryz.func272 <|
 all_cons Tryz.func273 <|
 all_cons Tryz.func344 <|
 all_cons Tryz.func395 <|
 all_cons Tryz.func274 <|
 all_cons Tryz.func275 <|
 all_cons Tryz.func54 <|
 all_cons Tryz.func109 <|
 all_cons Tryz.func195 <|
 all_cons Tryz.func276 <|
 all_cons Tryz.func196 <|
 all_cons Tryz.func197 <|
 all_cons Tryz.func277 <|
 all_cons Tryz.func278 <|
 all_cons Tryz.func279 <|
 all_cons Tryz.func198 <|
 all_cons Tryz.func14 <|
 all_cons Tryz.func23 <|
 all_cons Tryz.func56 <|
 all_cons Tryz.func55 <|
 all_cons Tryz.func24 <|
 all_cons Tryz.func57 <|
 all_cons Tryz.func58 <|
 all_cons Tryz.func110 <|
 all_cons Tryz.func5 <|
 all_cons Tryz.func15 <|
 all_cons Tryz.func6 <|
 all_cons Tryz.func60 <|
 all_cons Tryz.func111 <|
 all_cons Tryz.func112 <|
 all_cons Tryz.func61 <|
 all_cons Tryz.func7 <|
 all_cons Tryz.func25 <|
 all_cons Tryz.func8 <|
 all_cons Tryz.func16 <|
 all_cons Tryz.func30 <|
 all_cons Tryz.func63 <|
 all_cons Tryz.func31 <|
 all_cons Tryz.func33 <|
 all_cons Tryz.func67 <|
 all_cons Tryz.func120 <|
 all_cons Tryz.func68 <|
 all_cons Tryz.func62 <|
 all_cons Tryz.func113 <|
 all_cons Tryz.func121 <|
 all_cons Tryz.func69 <|
 all_cons Tryz.func70 <|
 all_cons Tryz.func123 <|
 all_cons Tryz.func71 <|
 all_cons Tryz.func124 <|
 all_cons Tryz.func125 <|
 all_cons Tryz.func213 <|
 all_cons Tryz.func126 <|
 all_cons Tryz.func132 <|
 all_cons Tryz.func215 <|
 all_cons Tryz.func130 <|
 all_cons Tryz.func72 <|
 all_cons Tryz.func127 <|
 all_cons Tryz.func73 <|
 all_cons Tryz.func128 <|
 all_cons Tryz.func74 <|
 all_cons Tryz.func129 <|
 all_cons Tryz.func131 <|
 all_cons Tryz.func75 <|
 all_cons Tryz.func134 <|
 all_cons Tryz.func76 <|
 all_cons Tryz.func135 <|
 all_cons Tryz.func11 <|
 all_cons Tryz.func27 <|
 all_cons Tryz.func26 <|
 all_cons Tryz.func10 <|
 all_cons Tryz.func29 <|
 all_cons Tryz.func28 <|
 all_cons Tryz.func9 <|
 all_cons Tryz.func12 <| all_nil
def eqs:List Nat:=[229,456,121]
theorem Sl:∀ t∈eqs,Tryz.prog.eqGuardType Tryz.prog.depth t=false/\Tryz.prog.stoodInHeld t=false/\(Tryz.prog.fieldsOf t).toList.all (fun f=>decide (f.name≠ "_"))=true :=
 all_cons ⟨by kernel_rfl,by kernel_rfl,by kernel_rfl⟩ <|
 all_cons ⟨by kernel_rfl,by kernel_rfl,by kernel_rfl⟩ <|
 all_cons ⟨by kernel_rfl,by kernel_rfl,by kernel_rfl⟩ <| all_nil
theorem mixed:Tryz.prog.follows .mixedOrders=true:=by kernel_rfl
noncomputable def ZB (rC:List (Nat × Nat)) (Hv:List Sum):Cx:={ P:=Tryz.prog,rC:=rC,Hv:=Hv,tt:=tt,fns:=fns,eqs:=eqs }
theorem cxOk (rC:List (Nat × Nat)) (Hv:List Sum):fR (ZB rC Hv):=⟨Sj,Sk,II,mixed,Sl⟩
end Go.Proofs.YtbnoodjnpooocaaGreatDoor.Ev
